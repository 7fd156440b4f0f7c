/-
  recensionlaw03.awake returns true. Helper lemma; no statement of the seat is proved here.
-/
import Derived.Test.YtcdpjgdaofgpcaaDoorDeciQ
namespace Go.Proofs.YtcdpjgdaofgpcaaDoor
open Go.RowKit
set_option maxRecDepth 100000

theorem aw1 : two false false 1000000 3000000 (divS 1000000 3000000) = ((false, 333333), 0) := by decide +kernel
theorem aw2 : parseS [32, 45, 49, 46, 53, 48, 32] = ((false, -1500000), 0) := by decide +kernel
theorem aw3 : two false false 1000000 0 (divS 1000000 0) = ((false, 0), 67) := by decide +kernel
theorem aw4 : textS false (-1500000) = [45, 49, 46, 53] := by decide +kernel
theorem div_aw1 (w : World) : Calls Tryd.prog 26 #[.agg #[.bool false, .int .i64 1000000], .agg #[.bool false, .int .i64 3000000]] w fun e w' => e = .returned (.tuple #[.agg #[.bool false, .int .i64 333333], .int .i64 0]) ∧ Ext w w' := by
  have h := div_any false false 1000000 3000000 w
  rw [aw1] at h; exact h
theorem div_aw3 (w : World) : Calls Tryd.prog 26 #[.agg #[.bool false, .int .i64 1000000], .agg #[.bool false, .int .i64 0]] w fun e w' => e = .returned (.tuple #[.agg #[.bool false, .int .i64 0], .int .i64 67]) ∧ Ext w w' := by
  have h := div_any false false 1000000 0 w
  rw [aw3] at h; exact h
theorem parse_aw (w : World) (G : Glob w) : Calls Tryd.prog 21 #[.string ⟨#[32, 45, 49, 46, 53, 48, 32]⟩] w fun e w' => e = .returned (.tuple #[.agg #[.bool false, .int .i64 (-1500000)], .int .i64 0]) ∧ Ext w w' := by
  have h := parse_any ⟨#[32, 45, 49, 46, 53, 48, 32]⟩ w G (by decide)
  rw [show (⟨#[32, 45, 49, 46, 53, 48, 32]⟩ : ByteArray).data.toList = [32, 45, 49, 46, 53, 48, 32] from rfl, aw2] at h; exact h
theorem text_aw (w : World) (G : Glob w) : Calls Tryd.prog 23 #[.agg #[.bool false, .int .i64 (-1500000)]] w fun e w' => e = .returned (.string ⟨#[45, 49, 46, 53]⟩) ∧ Ext w w' := by
  have h := text_any false (-1500000) w G
  rw [aw4] at h; exact h
theorem awake3 (w : World) (G : Glob w) : Calls Tryd.prog 20 #[] w fun e w' => e = .returned (.bool true) ∧ Ext w w' := by
  go_enter Tryd.func20, Tryd.ntmps20
  go_wp2_with fail
  refine (div_aw1 _).mono ?_
  rintro e w1 ⟨rfl, hB1⟩
  go_wp2_with fail
  have G1 := (G.ext hB1).alloc (.cells #[.bool false, .int .i64 333333] 38)
  refine (parse_aw _ G1).mono ?_
  rintro e w2 ⟨rfl, hB2⟩
  go_wp2_with fail
  refine (div_aw3 _).mono ?_
  rintro e w3 ⟨rfl, hB3⟩
  have hc2 := hB2.cells
  have hc3 := hB3.cells
  have hz2 := hB2.size
  have hz3 := hB3.size
  simp at hz2 hz3
  have l1 : w1.heap.size < w2.heap.size := by omega
  have l1' : w1.heap.size < w2.heap.size + 1 := by omega
  have l2 : w1.heap.size < w3.heap.size := by omega
  have l3 : w2.heap.size < w3.heap.size := by omega
  have G3 := ((G1.ext hB2).alloc (.cells #[.bool false, .int .i64 (-1500000)] 38)).ext hB3
  go_wp2_with fail
  refine (text_aw _ (G3.alloc _)).mono ?_
  rintro e w4 ⟨rfl, hB4⟩
  go_wp2_with fail
  go_ret
  refine ⟨rfl, ?_⟩
  repeat (first | exact Ext.refl _ | refine Ext.set ?_ (by dsimp only; omega) _ | refine Ext.alloc ?_ _ | refine Ext.drew ?_ | refine (Ext.trans ?_ (by assumption)))
end Go.Proofs.YtcdpjgdaofgpcaaDoor
