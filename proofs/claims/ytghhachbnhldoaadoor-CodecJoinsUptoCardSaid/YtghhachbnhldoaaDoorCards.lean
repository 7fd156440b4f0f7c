/-
  DERIVED. GIVEN WITH THE SEED: THE CARDS: each row of YtghhachbnhldoaaDoorRows.lean that lists a variable, with what it lists TIED to the program's text (the seventh form; the later family's looks); each row that meets fmt, with fmt's text TOLD by the authors' own Lean function (tested against real Go, not proved from fmt's source: count such statements apart). THE CARD IS WHAT COUNTS. Prove the row's statement (the work); the ties are given (YtghhachbnhldoaaDoorTie.lean); close each card by the builder's one call (the guide's Derived/Test/ToyasCard.lean, 'card_holds'). Laid BY PROGRAM, IN A SANDBOX (cutbox-door.mjs). By AI agents, Wed Nov 11 2026. No macro, syntax, notation, axiom, sorry.
-/
import Derived.Test.YtghhachbnhldoaaDoorRows
import GoSem.ClaimSeven
namespace Go.Proofs.YtghhachbnhldoaaDoor
namespace Rows

/-- THE TIED CARD OF 'recensionlaw18.CodecJoins'. -/
def codecJoinsCard : Claim7 := { stood := { row := codecJoinsRow, standIns := [], harness := (true, "5ed68c32449790075531f413262cb70ca6676005b35728c8fb8852e0fe48f734"), looks := true }, kinds := [], alts := [], laidByText := true, laidKinds := [.handle], laidTests := true, laidLooks := .later }
def CodecJoinsCardSaid : Prop := Claim7.holds Tryd.pinned (.plain (OpenSpec.ofChange codecJoinsSpec)) codecJoinsCard

/-- THE SECOND FORM's CARD OF 'recensionlaw18.CodecJoins'. -/
def codecJoinsUptoCard : Claim7 := { stood := { row := codecJoinsUptoRow, standIns := [], harness := (true, "5ed68c32449790075531f413262cb70ca6676005b35728c8fb8852e0fe48f734"), looks := true }, kinds := [], alts := [], laidByText := true, laidKinds := [.handle], laidTests := true, laidLooks := .later }
def CodecJoinsUptoCardSaid : Prop := Claim7.holds Tryd.pinned (.plain (OpenSpec.upto codecJoinsSpec)) codecJoinsUptoCard
end Rows
end Go.Proofs.YtghhachbnhldoaaDoor
