/-
  Contracts of package deci: Mul, Div. Helper lemmas; no statement of the seat is proved here.
-/
import Derived.Test.YtcdehcclkhmbiaaGreatDoorDeciC
namespace Go.Proofs.YtcdehcclkhmbiaaGreatDoor
open Go.RowKit
set_option maxRecDepth 100000

def signed (neg : Bool) (q : Nat) : Int := if neg then -(q : Int) else q
def mulS (a b : Int) : Out := fitS (signed (decide (a < 0) != decide (b < 0)) (a.natAbs * b.natAbs / 1000000))
def divS (a b : Int) : Out := if b = 0 then ((false, 0), 67) else fitS (signed (decide (a < 0) != decide (b < 0)) (a.natAbs * 1000000 / b.natAbs))
theorem fitS_far (neg : Bool) (q : Nat) (h : 1000000000000000 < q) : fitS (signed neg q) = ((false, 0), 66) := by
  cases neg
  · exact fitS_hi (by simp [signed]; omega)
  · exact fitS_lo (by simp [signed]; omega)

end Go.Proofs.YtcdehcclkhmbiaaGreatDoor
