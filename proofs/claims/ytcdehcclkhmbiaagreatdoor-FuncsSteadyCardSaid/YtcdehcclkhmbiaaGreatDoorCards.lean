/-
  DERIVED. GIVEN WITH THE SEED: THE CARDS: each row of YtcdehcclkhmbiaaGreatDoorRows.lean that lists a variable, with what it lists TIED to the program's text (the seventh form; the later family's looks); each row that meets fmt, with fmt's text TOLD by the authors' own Lean function (tested against real Go, not proved from fmt's source: count such statements apart). THE CARD IS WHAT COUNTS. Prove the row's statement (the work); the ties are given (YtcdehcclkhmbiaaGreatDoorTie.lean); close each card by the builder's one call (the guide's Derived/Test/ToyasCard.lean, 'card_holds'). Laid BY PROGRAM, IN A SANDBOX (cutbox-door.mjs). By AI agents, Wed Nov 11 2026. No macro, syntax, notation, axiom, sorry.
-/
import Derived.Test.YtcdehcclkhmbiaaGreatDoorRows
import GoSem.ClaimSeven
namespace Go.Proofs.YtcdehcclkhmbiaaGreatDoor
namespace Rows

/-- THE TIED CARD OF 'recensionlaw24.FuncsTexts'. -/
def funcsTextsCard : Claim7 := { stood := { row := funcsTextsRow, standIns := [], harness := (true, "8f2aace4f5bdc5583d261b3988fee9b68da57da8b708e9da5cb44013fe03632c"), looks := true }, kinds := [], alts := [], laidByText := true, laidKinds := [.data, .data, .data, .data, .sentinel, .sentinel, .pinned], laidTests := true, laidLooks := .later }
def FuncsTextsCardSaid : Prop := Claim7.holds Tryz.pinned (.plain (OpenSpec.ofChange funcsTextsSpec)) funcsTextsCard

/-- THE TIED CARD OF 'recensionlaw24.FuncsSteady'. -/
def funcsSteadyCard : Claim7 := { stood := { row := funcsSteadyRow, standIns := [], harness := (true, "8f2aace4f5bdc5583d261b3988fee9b68da57da8b708e9da5cb44013fe03632c"), looks := true }, kinds := [], alts := [], laidByText := true, laidKinds := [.data, .data, .data, .data, .sentinel, .sentinel, .pinned], laidTests := true, laidLooks := .later }
def FuncsSteadyCardSaid : Prop := Claim7.holds Tryz.pinned (.plain (OpenSpec.ofChange funcsSteadySpec)) funcsSteadyCard

/-- THE TIED CARD OF 'recensionlaw24.FuncsParts'. -/
def funcsPartsCard : Claim7 := { stood := { row := funcsPartsRow, standIns := [], harness := (true, "8f2aace4f5bdc5583d261b3988fee9b68da57da8b708e9da5cb44013fe03632c"), looks := true }, kinds := [], alts := [], laidByText := true, laidKinds := [.data, .data, .data, .data, .sentinel, .sentinel, .pinned], laidTests := true, laidLooks := .later }
def FuncsPartsCardSaid : Prop := Claim7.holds Tryz.pinned (.plain (OpenSpec.ofChange funcsPartsSpec)) funcsPartsCard

/-- THE TIED CARD OF 'recensionlaw24.FuncsNumbers'. -/
def funcsNumbersCard : Claim7 := { stood := { row := funcsNumbersRow, standIns := [], harness := (true, "8f2aace4f5bdc5583d261b3988fee9b68da57da8b708e9da5cb44013fe03632c"), looks := true }, kinds := [], alts := [], laidByText := true, laidKinds := [.data, .data, .data, .data, .sentinel, .sentinel, .pinned], laidTests := true, laidLooks := .later }
def FuncsNumbersCardSaid : Prop := Claim7.holds Tryz.pinned (.plain (OpenSpec.ofChange funcsNumbersSpec)) funcsNumbersCard

/-- THE SECOND FORM's CARD OF 'recensionlaw24.FuncsTexts'. -/
def funcsTextsUptoCard : Claim7 := { stood := { row := funcsTextsUptoRow, standIns := [], harness := (true, "8f2aace4f5bdc5583d261b3988fee9b68da57da8b708e9da5cb44013fe03632c"), looks := true }, kinds := [], alts := [], laidByText := true, laidKinds := [.data, .data, .data, .data, .sentinel, .sentinel, .pinned], laidTests := true, laidLooks := .later }
def FuncsTextsUptoCardSaid : Prop := Claim7.holds Tryz.pinned (.plain (OpenSpec.upto funcsTextsSpec)) funcsTextsUptoCard

/-- THE SECOND FORM's CARD OF 'recensionlaw24.FuncsSteady'. -/
def funcsSteadyUptoCard : Claim7 := { stood := { row := funcsSteadyUptoRow, standIns := [], harness := (true, "8f2aace4f5bdc5583d261b3988fee9b68da57da8b708e9da5cb44013fe03632c"), looks := true }, kinds := [], alts := [], laidByText := true, laidKinds := [.data, .data, .data, .data, .sentinel, .sentinel, .pinned], laidTests := true, laidLooks := .later }
def FuncsSteadyUptoCardSaid : Prop := Claim7.holds Tryz.pinned (.plain (OpenSpec.upto funcsSteadySpec)) funcsSteadyUptoCard

/-- THE SECOND FORM's CARD OF 'recensionlaw24.FuncsParts'. -/
def funcsPartsUptoCard : Claim7 := { stood := { row := funcsPartsUptoRow, standIns := [], harness := (true, "8f2aace4f5bdc5583d261b3988fee9b68da57da8b708e9da5cb44013fe03632c"), looks := true }, kinds := [], alts := [], laidByText := true, laidKinds := [.data, .data, .data, .data, .sentinel, .sentinel, .pinned], laidTests := true, laidLooks := .later }
def FuncsPartsUptoCardSaid : Prop := Claim7.holds Tryz.pinned (.plain (OpenSpec.upto funcsPartsSpec)) funcsPartsUptoCard

/-- THE SECOND FORM's CARD OF 'recensionlaw24.FuncsNumbers'. -/
def funcsNumbersUptoCard : Claim7 := { stood := { row := funcsNumbersUptoRow, standIns := [], harness := (true, "8f2aace4f5bdc5583d261b3988fee9b68da57da8b708e9da5cb44013fe03632c"), looks := true }, kinds := [], alts := [], laidByText := true, laidKinds := [.data, .data, .data, .data, .sentinel, .sentinel, .pinned], laidTests := true, laidLooks := .later }
def FuncsNumbersUptoCardSaid : Prop := Claim7.holds Tryz.pinned (.plain (OpenSpec.upto funcsNumbersSpec)) funcsNumbersUptoCard
end Rows
end Go.Proofs.YtcdehcclkhmbiaaGreatDoor
