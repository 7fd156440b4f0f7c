/-
  Contracts of the reference of layer 3 (decimal numbers), but Parse and Text. Helper lemmas; no statement of the seat is proved here.
-/
import Derived.Test.YtcdehcclkhmbiaaGreatDoorDeciD
namespace Go.Proofs.YtcdehcclkhmbiaaGreatDoor
open Go.RowKit
set_option maxRecDepth 100000
set_option linter.unusedVariables false

theorem rodd_yes (n : Bool) (v : Int) (w : World) (ho : oddB n v = true) : Calls Tryz.prog 13 #[.agg #[.bool n, .int .i64 v]] w fun e w' => e = .returned (.bool true) ∧ Ext w w' := by
  cases n with
  | true =>
    clear ho
    go_enter Tryz.func13, Tryz.ntmps13
    go_wp2_with fail
    go_ret
    exact ⟨rfl, (Ext.refl _).alloc _⟩
  | false =>
    by_cases h1 : 1000000000000000 < v
    · clear ho
      go_enter Tryz.func13, Tryz.ntmps13
      go_wp2_with fail
      go_ret
      exact ⟨rfl, (Ext.refl _).alloc _⟩
    · have h2 : v < -1000000000000000 := by simp [oddB] at ho; omega
      clear ho
      go_enter Tryz.func13, Tryz.ntmps13
      go_wp2_with fail
      go_ret
      exact ⟨rfl, (Ext.refl _).alloc _⟩
theorem rodd_no (v : Int) (w : World) (h1 : v ≤ 1000000000000000) (h2 : -1000000000000000 ≤ v) : Calls Tryz.prog 13 #[.agg #[.bool false, .int .i64 v]] w fun e w' => e = .returned (.bool false) ∧ Ext w w' := by
  have h1' : ¬ 1000000000000000 < v := by omega
  have h2' : decide (v < -1000000000000000) = false := by simp; omega
  go_enter Tryz.func13, Tryz.ntmps13
  go_wp2_with fail
  go_ret
  exact ⟨rfl, (Ext.refl _).alloc _⟩
theorem rodd_any (n : Bool) (v : Int) (w : World) : Calls Tryz.prog 13 #[.agg #[.bool n, .int .i64 v]] w fun e w' => e = .returned (.bool (oddB n v)) ∧ Ext w w' := by
  cases h : oddB n v with
  | true => exact rodd_yes n v w h
  | false =>
    obtain ⟨rfl, h1, h2⟩ := oddB_false h
    exact rodd_no v w h1 h2
theorem tdiv_neg (v : Int) (h : v < 0) : v.tdiv 1000000 = -((-v) / 1000000) := by
  have e : v = -(-v) := by omega
  rw [e, Int.neg_tdiv, Int.tdiv_eq_ediv_of_nonneg (by omega)]
  simp
theorem emod_abs (x b : Int) : x % b = x % absI b := by
  by_cases h : b < 0
  · rw [absI_neg h, Int.emod_neg]
  · rw [absI_pos (by omega)]
end Go.Proofs.YtcdehcclkhmbiaaGreatDoor
