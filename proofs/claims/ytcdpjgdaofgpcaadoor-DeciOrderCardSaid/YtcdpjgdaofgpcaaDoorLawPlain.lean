/-
  Plain lemmas on the words two, mulS for the laws of the numbers. Helper lemmas.
-/
import Derived.Test.YtcdpjgdaofgpcaaDoorRef3
namespace Go.Proofs.YtcdpjgdaofgpcaaDoor
theorem two_turn (an bn : Bool) (av bv : Int) (r : Out) : two bn an bv av r = two an bn av bv r := by unfold two; rw [Bool.or_comm]
theorem mulS_turn (a b : Int) : mulS b a = mulS a b := by
  unfold mulS
  rw [Nat.mul_comm b.natAbs a.natAbs, bne_comm]
theorem both_ok (av bv : Int) (r : Out) (h : oddB false av = false) (h' : oddB false bv = false) : two false false av bv r = r := by rw [two, if_neg (by rw [h, h']; decide)]
theorem both_no (an bn : Bool) (av bv : Int) (r : Out) (h : (oddB an av || oddB bn bv) = true) : two an bn av bv r = ((true, 0), 0) := by rw [two, if_pos h]; rfl
end Go.Proofs.YtcdpjgdaofgpcaaDoor
