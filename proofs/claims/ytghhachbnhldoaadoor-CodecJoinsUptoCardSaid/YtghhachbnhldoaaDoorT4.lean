/-
  recensionref13.Less and Ahead. Helper lemmas; no statement of the seat is proved here.
-/
import Derived.Test.YtghhachbnhldoaaDoorT3
namespace Go.Proofs.YtghhachbnhldoaaDoor
open Go.RowKit
set_option maxRecDepth 100000
set_option linter.unusedVariables false
set_option linter.unusedSimpArgs false

/-- One key ahead of another one. -/
def lessK : List Bytes → List Bytes → Bool
  | [], [] => false
  | [], _ :: _ => true
  | _ :: _, [] => false
  | a :: x, b :: y => if a = b then lessK x y else lessB a b
/-- One step ahead of another one. -/
def aheadB (x y : Step) : Bool := if x.n = y.n then lessK x.key y.key else lessB x.n y.n
end Go.Proofs.YtghhachbnhldoaaDoor
