/-
  The walk of recensionlaw03.DeciRules: it returns true, whatever the two numbers. Helper lemmas; the statement itself is proved in the row's text.
-/
import Derived.Test.YtcdpjgdaofgpcaaDoorDeciAwake
import Derived.Test.YtcdpjgdaofgpcaaDoorLawPlain
import Derived.Deep.RegionHeld3
import Derived.BigQuiet
namespace Go.Proofs.YtcdpjgdaofgpcaaDoor
open Go.RowKit
set_option maxRecDepth 100000
set_option linter.unusedVariables false
set_option linter.unusedSimpArgs false

theorem quo_mul (a b : Int) : a.tdiv b * b = a - a.tmod b := by have := Int.mul_tdiv_add_tmod a b; rw [Int.mul_comm] at this; omega
theorem tmod_le (a b : Int) : (a.tmod b).natAbs ≤ a.natAbs := by
  rw [Int.natAbs_tmod]; exact Nat.mod_le _ _
theorem tdiv_le (a b : Int) : (a.tdiv b).natAbs ≤ a.natAbs := by
  rw [Int.natAbs_tdiv]; exact Nat.div_le_self _ _
theorem quo_back (a b : Int) (h : -9223372036854775808 < a ∧ a ≤ 9223372036854775807) : (IntKind.i64.wrap (IntKind.i64.wrap (IntKind.i64.wrap (a.tdiv b) * b) + a.tmod b) == a) = true := by
  have h1 := tdiv_le a b
  have h2 := quo_mul a b
  have h3 := tmod_le a b
  have h4 : (a.tdiv b * b).natAbs ≤ a.natAbs := by rw [h2]; have := Int.natAbs_tmod a b; by_cases hn : 0 ≤ a
                                                   · have := Int.tmod_nonneg b hn; omega
                                                   · have h5 := Int.neg_tmod a b
                                                     have := Int.tmod_nonneg b (show 0 ≤ -a by omega); omega
  rw [Go.IntWalk.i64_in (a.tdiv b) (by omega), Go.IntWalk.i64_in (a.tdiv b * b) (by omega), Go.IntWalk.i64_in (a.tdiv b * b + a.tmod b) (by omega), beq_iff_eq]
  omega

set_option maxHeartbeats 4000000 in
theorem rules_odd1 (an bn : Bool) (av bv : Int) (w : World) (G : Glob w) (ha : oddB an av = true) :
    Calls Tryd.prog 8 #[.agg #[.bool an, .int .i64 av], .agg #[.bool bn, .int .i64 bv]] w fun e w' => e = .returned (.bool true) ∧ Ext w w' := by
  have ho : (oddB an av || oddB bn bv) = true := by rw [ha]; rfl
  have E0 : Hid (two an bn av bv (fitS (av + bv)) = ((true, 0), 0)) := both_no _ _ _ _ _ ho
  have E1 : Hid (two bn an bv av (fitS (bv + av)) = ((true, 0), 0)) := by refine Lib.hid ?_; rw [two_turn]; exact both_no _ _ _ _ _ ho
  have E2 : Hid (two an bn av bv (mulS av bv) = ((true, 0), 0)) := both_no _ _ _ _ _ ho
  have E3 : Hid (two bn an bv av (mulS bv av) = ((true, 0), 0)) := by refine Lib.hid ?_; rw [two_turn]; exact both_no _ _ _ _ _ ho
  have HA := Lib.hid ha
  clear ho ha
  go_enter Tryd.func8, Tryd.ntmps8
  go_wp2_with fail
  refine (awake3 _ ((G.alloc _).alloc _)).mono ?_
  rintro e w1 ⟨rfl, hB1⟩
  have hz1 := hB1.size
  simp at hz1
  have l0_1 : w.heap.size < w1.heap.size := by omega
  have l1_1 : w.heap.size + 1 < w1.heap.size := by omega
  have c0_0_1 : w1.cell? ⟨w.heap.size, 0, none⟩ = some (.bool an) := hB1.keep (by first | (simp; done) | (simp; omega)) (by simp [go_sem])
  have c0_1_1 : w1.cell? ⟨w.heap.size, 1, none⟩ = some (.int .i64 av) := hB1.keep (by first | (simp; done) | (simp; omega)) (by simp [go_sem])
  have c1_0_1 : w1.cell? ⟨w.heap.size + 1, 0, none⟩ = some (.bool bn) := hB1.keep (by first | (simp; done) | (simp; omega)) (by simp [go_sem])
  have c1_1_1 : w1.cell? ⟨w.heap.size + 1, 1, none⟩ = some (.int .i64 bv) := hB1.keep (by first | (simp; done) | (simp; omega)) (by simp [go_sem])
  go_wp2_with fail
  refine (add_any an bn av bv _).mono ?_
  rw [E0.out]
  rintro e w2 ⟨rfl, hB2⟩
  have hz2 := hB2.size
  have l0_2 : w.heap.size < w2.heap.size := by omega
  have l1_2 : w.heap.size + 1 < w2.heap.size := by omega
  have c0_0_2 : w2.cell? ⟨w.heap.size, 0, none⟩ = some (.bool an) := hB2.keep (by omega) c0_0_1
  have c0_1_2 : w2.cell? ⟨w.heap.size, 1, none⟩ = some (.int .i64 av) := hB2.keep (by omega) c0_1_1
  have c1_0_2 : w2.cell? ⟨w.heap.size + 1, 0, none⟩ = some (.bool bn) := hB2.keep (by omega) c1_0_1
  have c1_1_2 : w2.cell? ⟨w.heap.size + 1, 1, none⟩ = some (.int .i64 bv) := hB2.keep (by omega) c1_1_1
  clear c0_0_1 c0_1_1 c1_0_1 c1_1_1 l0_1 l1_1
  go_wp2_with fail
  refine (add_any bn an bv av _).mono ?_
  rw [E1.out]
  rintro e w3 ⟨rfl, hB3⟩
  have hz3 := hB3.size
  simp at hz3
  have l0_3 : w.heap.size < w3.heap.size := by omega
  have l1_3 : w.heap.size + 1 < w3.heap.size := by omega
  have l2_3 : w2.heap.size < w3.heap.size := by omega
  have c0_0_3 : w3.cell? ⟨w.heap.size, 0, none⟩ = some (.bool an) := hB3.keep (by first | (simp; done) | (simp; omega)) (by simp [go_sem, l0_2, l1_2, c0_0_2])
  have c0_1_3 : w3.cell? ⟨w.heap.size, 1, none⟩ = some (.int .i64 av) := hB3.keep (by first | (simp; done) | (simp; omega)) (by simp [go_sem, l0_2, l1_2, c0_1_2])
  have c1_0_3 : w3.cell? ⟨w.heap.size + 1, 0, none⟩ = some (.bool bn) := hB3.keep (by first | (simp; done) | (simp; omega)) (by simp [go_sem, l0_2, l1_2, c1_0_2])
  have c1_1_3 : w3.cell? ⟨w.heap.size + 1, 1, none⟩ = some (.int .i64 bv) := hB3.keep (by first | (simp; done) | (simp; omega)) (by simp [go_sem, l0_2, l1_2, c1_1_2])
  have c2_0_3 : w3.cell? ⟨w2.heap.size, 0, none⟩ = some (.bool true) := hB3.keep (by first | (simp; done) | (simp; omega)) (by simp [go_sem, l0_2, l1_2])
  have c2_1_3 : w3.cell? ⟨w2.heap.size, 1, none⟩ = some (.int .i64 0) := hB3.keep (by first | (simp; done) | (simp; omega)) (by simp [go_sem, l0_2, l1_2])
  clear c0_0_2 c0_1_2 c1_0_2 c1_1_2 l0_2 l1_2
  go_wp2_with fail
  refine (mul_any an bn av bv _).mono ?_
  rw [E2.out]
  rintro e w4 ⟨rfl, hB4⟩
  have hz4 := hB4.size
  simp at hz4
  have l0_4 : w.heap.size < w4.heap.size := by omega
  have l1_4 : w.heap.size + 1 < w4.heap.size := by omega
  have l2_4 : w2.heap.size < w4.heap.size := by omega
  have l3_4 : w3.heap.size < w4.heap.size := by omega
  have c0_0_4 : w4.cell? ⟨w.heap.size, 0, none⟩ = some (.bool an) := hB4.keep (by first | (simp; done) | (simp; omega)) (by simp [go_sem, l0_3, l1_3, l2_3, c0_0_3])
  have c0_1_4 : w4.cell? ⟨w.heap.size, 1, none⟩ = some (.int .i64 av) := hB4.keep (by first | (simp; done) | (simp; omega)) (by simp [go_sem, l0_3, l1_3, l2_3, c0_1_3])
  have c1_0_4 : w4.cell? ⟨w.heap.size + 1, 0, none⟩ = some (.bool bn) := hB4.keep (by first | (simp; done) | (simp; omega)) (by simp [go_sem, l0_3, l1_3, l2_3, c1_0_3])
  have c1_1_4 : w4.cell? ⟨w.heap.size + 1, 1, none⟩ = some (.int .i64 bv) := hB4.keep (by first | (simp; done) | (simp; omega)) (by simp [go_sem, l0_3, l1_3, l2_3, c1_1_3])
  have c2_0_4 : w4.cell? ⟨w2.heap.size, 0, none⟩ = some (.bool true) := hB4.keep (by first | (simp; done) | (simp; omega)) (by simp [go_sem, l0_3, l1_3, l2_3, c2_0_3])
  have c2_1_4 : w4.cell? ⟨w2.heap.size, 1, none⟩ = some (.int .i64 0) := hB4.keep (by first | (simp; done) | (simp; omega)) (by simp [go_sem, l0_3, l1_3, l2_3, c2_1_3])
  have c3_0_4 : w4.cell? ⟨w3.heap.size, 0, none⟩ = some (.bool true) := hB4.keep (by first | (simp; done) | (simp; omega)) (by simp [go_sem, l0_3, l1_3, l2_3])
  have c3_1_4 : w4.cell? ⟨w3.heap.size, 1, none⟩ = some (.int .i64 0) := hB4.keep (by first | (simp; done) | (simp; omega)) (by simp [go_sem, l0_3, l1_3, l2_3])
  clear c0_0_3 c0_1_3 c1_0_3 c1_1_3 c2_0_3 c2_1_3 l0_3 l1_3 l2_3
  go_wp2_with fail
  refine (mul_any bn an bv av _).mono ?_
  rw [E3.out]
  rintro e w5 ⟨rfl, hB5⟩
  have hz5 := hB5.size
  simp at hz5
  have l0_5 : w.heap.size < w5.heap.size := by omega
  have l1_5 : w.heap.size + 1 < w5.heap.size := by omega
  have l2_5 : w2.heap.size < w5.heap.size := by omega
  have l3_5 : w3.heap.size < w5.heap.size := by omega
  have l4_5 : w4.heap.size < w5.heap.size := by omega
  have c0_0_5 : w5.cell? ⟨w.heap.size, 0, none⟩ = some (.bool an) := hB5.keep (by first | (simp; done) | (simp; omega)) (by simp [go_sem, l0_4, l1_4, l2_4, l3_4, c0_0_4])
  have c0_1_5 : w5.cell? ⟨w.heap.size, 1, none⟩ = some (.int .i64 av) := hB5.keep (by first | (simp; done) | (simp; omega)) (by simp [go_sem, l0_4, l1_4, l2_4, l3_4, c0_1_4])
  have c1_0_5 : w5.cell? ⟨w.heap.size + 1, 0, none⟩ = some (.bool bn) := hB5.keep (by first | (simp; done) | (simp; omega)) (by simp [go_sem, l0_4, l1_4, l2_4, l3_4, c1_0_4])
  have c1_1_5 : w5.cell? ⟨w.heap.size + 1, 1, none⟩ = some (.int .i64 bv) := hB5.keep (by first | (simp; done) | (simp; omega)) (by simp [go_sem, l0_4, l1_4, l2_4, l3_4, c1_1_4])
  have c2_0_5 : w5.cell? ⟨w2.heap.size, 0, none⟩ = some (.bool true) := hB5.keep (by first | (simp; done) | (simp; omega)) (by simp [go_sem, l0_4, l1_4, l2_4, l3_4, c2_0_4])
  have c2_1_5 : w5.cell? ⟨w2.heap.size, 1, none⟩ = some (.int .i64 0) := hB5.keep (by first | (simp; done) | (simp; omega)) (by simp [go_sem, l0_4, l1_4, l2_4, l3_4, c2_1_4])
  have c3_0_5 : w5.cell? ⟨w3.heap.size, 0, none⟩ = some (.bool true) := hB5.keep (by first | (simp; done) | (simp; omega)) (by simp [go_sem, l0_4, l1_4, l2_4, l3_4, c3_0_4])
  have c3_1_5 : w5.cell? ⟨w3.heap.size, 1, none⟩ = some (.int .i64 0) := hB5.keep (by first | (simp; done) | (simp; omega)) (by simp [go_sem, l0_4, l1_4, l2_4, l3_4, c3_1_4])
  have c4_0_5 : w5.cell? ⟨w4.heap.size, 0, none⟩ = some (.bool true) := hB5.keep (by first | (simp; done) | (simp; omega)) (by simp [go_sem, l0_4, l1_4, l2_4, l3_4])
  have c4_1_5 : w5.cell? ⟨w4.heap.size, 1, none⟩ = some (.int .i64 0) := hB5.keep (by first | (simp; done) | (simp; omega)) (by simp [go_sem, l0_4, l1_4, l2_4, l3_4])
  clear c0_0_4 c0_1_4 c1_0_4 c1_1_4 c2_0_4 c2_1_4 c3_0_4 c3_1_4 l0_4 l1_4 l2_4 l3_4
  go_wp2_with fail
  obtain ⟨w6, hW6⟩ : ∃ wz, (w5.alloc (.cells #[.bool true, .int .i64 0] 38)) = wz := ⟨_, rfl⟩
  rw [hW6]
  have hB6 : Ext (w5.alloc (.cells #[.bool true, .int .i64 0] 38)) w6 := by rw [hW6]; exact Ext.refl _
  clear hW6
  have hz6 := hB6.size
  simp at hz6
  have l0_6 : w.heap.size < w6.heap.size := by omega
  have l1_6 : w.heap.size + 1 < w6.heap.size := by omega
  have l2_6 : w2.heap.size < w6.heap.size := by omega
  have l3_6 : w3.heap.size < w6.heap.size := by omega
  have l4_6 : w4.heap.size < w6.heap.size := by omega
  have l5_6 : w5.heap.size < w6.heap.size := by omega
  have c0_0_6 : w6.cell? ⟨w.heap.size, 0, none⟩ = some (.bool an) := hB6.keep (by first | (simp; done) | (simp; omega)) (by simp [go_sem, l0_5, l1_5, l2_5, l3_5, l4_5, c0_0_5])
  have c0_1_6 : w6.cell? ⟨w.heap.size, 1, none⟩ = some (.int .i64 av) := hB6.keep (by first | (simp; done) | (simp; omega)) (by simp [go_sem, l0_5, l1_5, l2_5, l3_5, l4_5, c0_1_5])
  have c1_0_6 : w6.cell? ⟨w.heap.size + 1, 0, none⟩ = some (.bool bn) := hB6.keep (by first | (simp; done) | (simp; omega)) (by simp [go_sem, l0_5, l1_5, l2_5, l3_5, l4_5, c1_0_5])
  have c1_1_6 : w6.cell? ⟨w.heap.size + 1, 1, none⟩ = some (.int .i64 bv) := hB6.keep (by first | (simp; done) | (simp; omega)) (by simp [go_sem, l0_5, l1_5, l2_5, l3_5, l4_5, c1_1_5])
  have c2_0_6 : w6.cell? ⟨w2.heap.size, 0, none⟩ = some (.bool true) := hB6.keep (by first | (simp; done) | (simp; omega)) (by simp [go_sem, l0_5, l1_5, l2_5, l3_5, l4_5, c2_0_5])
  have c2_1_6 : w6.cell? ⟨w2.heap.size, 1, none⟩ = some (.int .i64 0) := hB6.keep (by first | (simp; done) | (simp; omega)) (by simp [go_sem, l0_5, l1_5, l2_5, l3_5, l4_5, c2_1_5])
  have c3_0_6 : w6.cell? ⟨w3.heap.size, 0, none⟩ = some (.bool true) := hB6.keep (by first | (simp; done) | (simp; omega)) (by simp [go_sem, l0_5, l1_5, l2_5, l3_5, l4_5, c3_0_5])
  have c3_1_6 : w6.cell? ⟨w3.heap.size, 1, none⟩ = some (.int .i64 0) := hB6.keep (by first | (simp; done) | (simp; omega)) (by simp [go_sem, l0_5, l1_5, l2_5, l3_5, l4_5, c3_1_5])
  have c4_0_6 : w6.cell? ⟨w4.heap.size, 0, none⟩ = some (.bool true) := hB6.keep (by first | (simp; done) | (simp; omega)) (by simp [go_sem, l0_5, l1_5, l2_5, l3_5, l4_5, c4_0_5])
  have c4_1_6 : w6.cell? ⟨w4.heap.size, 1, none⟩ = some (.int .i64 0) := hB6.keep (by first | (simp; done) | (simp; omega)) (by simp [go_sem, l0_5, l1_5, l2_5, l3_5, l4_5, c4_1_5])
  have c5_0_6 : w6.cell? ⟨w5.heap.size, 0, none⟩ = some (.bool true) := hB6.keep (by first | (simp; done) | (simp; omega)) (by simp [go_sem, l0_5, l1_5, l2_5, l3_5, l4_5])
  have c5_1_6 : w6.cell? ⟨w5.heap.size, 1, none⟩ = some (.int .i64 0) := hB6.keep (by first | (simp; done) | (simp; omega)) (by simp [go_sem, l0_5, l1_5, l2_5, l3_5, l4_5])
  clear c0_0_5 c0_1_5 c1_0_5 c1_1_5 c2_0_5 c2_1_5 c3_0_5 c3_1_5 c4_0_5 c4_1_5 l0_5 l1_5 l2_5 l3_5 l4_5
  go_wp2_with fail
  refine (rodd_any an av _).mono ?_
  rw [HA.out]
  rintro e w7 ⟨rfl, hB7⟩
  have hz7 := hB7.size
  have l0_7 : w.heap.size < w7.heap.size := by omega
  have l1_7 : w.heap.size + 1 < w7.heap.size := by omega
  have l2_7 : w2.heap.size < w7.heap.size := by omega
  have l3_7 : w3.heap.size < w7.heap.size := by omega
  have l4_7 : w4.heap.size < w7.heap.size := by omega
  have l5_7 : w5.heap.size < w7.heap.size := by omega
  have c0_0_7 : w7.cell? ⟨w.heap.size, 0, none⟩ = some (.bool an) := hB7.keep (by omega) c0_0_6
  have c0_1_7 : w7.cell? ⟨w.heap.size, 1, none⟩ = some (.int .i64 av) := hB7.keep (by omega) c0_1_6
  have c1_0_7 : w7.cell? ⟨w.heap.size + 1, 0, none⟩ = some (.bool bn) := hB7.keep (by omega) c1_0_6
  have c1_1_7 : w7.cell? ⟨w.heap.size + 1, 1, none⟩ = some (.int .i64 bv) := hB7.keep (by omega) c1_1_6
  have c2_0_7 : w7.cell? ⟨w2.heap.size, 0, none⟩ = some (.bool true) := hB7.keep (by omega) c2_0_6
  have c2_1_7 : w7.cell? ⟨w2.heap.size, 1, none⟩ = some (.int .i64 0) := hB7.keep (by omega) c2_1_6
  have c3_0_7 : w7.cell? ⟨w3.heap.size, 0, none⟩ = some (.bool true) := hB7.keep (by omega) c3_0_6
  have c3_1_7 : w7.cell? ⟨w3.heap.size, 1, none⟩ = some (.int .i64 0) := hB7.keep (by omega) c3_1_6
  have c4_0_7 : w7.cell? ⟨w4.heap.size, 0, none⟩ = some (.bool true) := hB7.keep (by omega) c4_0_6
  have c4_1_7 : w7.cell? ⟨w4.heap.size, 1, none⟩ = some (.int .i64 0) := hB7.keep (by omega) c4_1_6
  have c5_0_7 : w7.cell? ⟨w5.heap.size, 0, none⟩ = some (.bool true) := hB7.keep (by omega) c5_0_6
  have c5_1_7 : w7.cell? ⟨w5.heap.size, 1, none⟩ = some (.int .i64 0) := hB7.keep (by omega) c5_1_6
  clear c0_0_6 c0_1_6 c1_0_6 c1_1_6 c2_0_6 c2_1_6 c3_0_6 c3_1_6 c4_0_6 c4_1_6 c5_0_6 c5_1_6 l0_6 l1_6 l2_6 l3_6 l4_6 l5_6
  go_wp2_with fail
  go_ret
  refine ⟨rfl, ?_⟩
  repeat (first | exact Ext.refl _ | refine Ext.set ?_ (by dsimp only; omega) _ | refine Ext.alloc ?_ _ | refine Ext.drew ?_ | refine (Ext.trans ?_ (by assumption)))
set_option maxHeartbeats 4000000 in
theorem rules_odd2 (an bn : Bool) (av bv : Int) (w : World) (G : Glob w) (ha : oddB an av = false) (hb : oddB bn bv = true) :
    Calls Tryd.prog 8 #[.agg #[.bool an, .int .i64 av], .agg #[.bool bn, .int .i64 bv]] w fun e w' => e = .returned (.bool true) ∧ Ext w w' := by
  have ho : (oddB an av || oddB bn bv) = true := by rw [ha, hb]; rfl
  have E0 : Hid (two an bn av bv (fitS (av + bv)) = ((true, 0), 0)) := both_no _ _ _ _ _ ho
  have E1 : Hid (two bn an bv av (fitS (bv + av)) = ((true, 0), 0)) := by refine Lib.hid ?_; rw [two_turn]; exact both_no _ _ _ _ _ ho
  have E2 : Hid (two an bn av bv (mulS av bv) = ((true, 0), 0)) := both_no _ _ _ _ _ ho
  have E3 : Hid (two bn an bv av (mulS bv av) = ((true, 0), 0)) := by refine Lib.hid ?_; rw [two_turn]; exact both_no _ _ _ _ _ ho
  have HA := Lib.hid ha
  clear ho ha
  have HB := Lib.hid hb; clear hb
  go_enter Tryd.func8, Tryd.ntmps8
  go_wp2_with fail
  refine (awake3 _ ((G.alloc _).alloc _)).mono ?_
  rintro e w1 ⟨rfl, hB1⟩
  have hz1 := hB1.size
  simp at hz1
  have l0_1 : w.heap.size < w1.heap.size := by omega
  have l1_1 : w.heap.size + 1 < w1.heap.size := by omega
  have c0_0_1 : w1.cell? ⟨w.heap.size, 0, none⟩ = some (.bool an) := hB1.keep (by first | (simp; done) | (simp; omega)) (by simp [go_sem])
  have c0_1_1 : w1.cell? ⟨w.heap.size, 1, none⟩ = some (.int .i64 av) := hB1.keep (by first | (simp; done) | (simp; omega)) (by simp [go_sem])
  have c1_0_1 : w1.cell? ⟨w.heap.size + 1, 0, none⟩ = some (.bool bn) := hB1.keep (by first | (simp; done) | (simp; omega)) (by simp [go_sem])
  have c1_1_1 : w1.cell? ⟨w.heap.size + 1, 1, none⟩ = some (.int .i64 bv) := hB1.keep (by first | (simp; done) | (simp; omega)) (by simp [go_sem])
  go_wp2_with fail
  refine (add_any an bn av bv _).mono ?_
  rw [E0.out]
  rintro e w2 ⟨rfl, hB2⟩
  have hz2 := hB2.size
  have l0_2 : w.heap.size < w2.heap.size := by omega
  have l1_2 : w.heap.size + 1 < w2.heap.size := by omega
  have c0_0_2 : w2.cell? ⟨w.heap.size, 0, none⟩ = some (.bool an) := hB2.keep (by omega) c0_0_1
  have c0_1_2 : w2.cell? ⟨w.heap.size, 1, none⟩ = some (.int .i64 av) := hB2.keep (by omega) c0_1_1
  have c1_0_2 : w2.cell? ⟨w.heap.size + 1, 0, none⟩ = some (.bool bn) := hB2.keep (by omega) c1_0_1
  have c1_1_2 : w2.cell? ⟨w.heap.size + 1, 1, none⟩ = some (.int .i64 bv) := hB2.keep (by omega) c1_1_1
  clear c0_0_1 c0_1_1 c1_0_1 c1_1_1 l0_1 l1_1
  go_wp2_with fail
  refine (add_any bn an bv av _).mono ?_
  rw [E1.out]
  rintro e w3 ⟨rfl, hB3⟩
  have hz3 := hB3.size
  simp at hz3
  have l0_3 : w.heap.size < w3.heap.size := by omega
  have l1_3 : w.heap.size + 1 < w3.heap.size := by omega
  have l2_3 : w2.heap.size < w3.heap.size := by omega
  have c0_0_3 : w3.cell? ⟨w.heap.size, 0, none⟩ = some (.bool an) := hB3.keep (by first | (simp; done) | (simp; omega)) (by simp [go_sem, l0_2, l1_2, c0_0_2])
  have c0_1_3 : w3.cell? ⟨w.heap.size, 1, none⟩ = some (.int .i64 av) := hB3.keep (by first | (simp; done) | (simp; omega)) (by simp [go_sem, l0_2, l1_2, c0_1_2])
  have c1_0_3 : w3.cell? ⟨w.heap.size + 1, 0, none⟩ = some (.bool bn) := hB3.keep (by first | (simp; done) | (simp; omega)) (by simp [go_sem, l0_2, l1_2, c1_0_2])
  have c1_1_3 : w3.cell? ⟨w.heap.size + 1, 1, none⟩ = some (.int .i64 bv) := hB3.keep (by first | (simp; done) | (simp; omega)) (by simp [go_sem, l0_2, l1_2, c1_1_2])
  have c2_0_3 : w3.cell? ⟨w2.heap.size, 0, none⟩ = some (.bool true) := hB3.keep (by first | (simp; done) | (simp; omega)) (by simp [go_sem, l0_2, l1_2])
  have c2_1_3 : w3.cell? ⟨w2.heap.size, 1, none⟩ = some (.int .i64 0) := hB3.keep (by first | (simp; done) | (simp; omega)) (by simp [go_sem, l0_2, l1_2])
  clear c0_0_2 c0_1_2 c1_0_2 c1_1_2 l0_2 l1_2
  go_wp2_with fail
  refine (mul_any an bn av bv _).mono ?_
  rw [E2.out]
  rintro e w4 ⟨rfl, hB4⟩
  have hz4 := hB4.size
  simp at hz4
  have l0_4 : w.heap.size < w4.heap.size := by omega
  have l1_4 : w.heap.size + 1 < w4.heap.size := by omega
  have l2_4 : w2.heap.size < w4.heap.size := by omega
  have l3_4 : w3.heap.size < w4.heap.size := by omega
  have c0_0_4 : w4.cell? ⟨w.heap.size, 0, none⟩ = some (.bool an) := hB4.keep (by first | (simp; done) | (simp; omega)) (by simp [go_sem, l0_3, l1_3, l2_3, c0_0_3])
  have c0_1_4 : w4.cell? ⟨w.heap.size, 1, none⟩ = some (.int .i64 av) := hB4.keep (by first | (simp; done) | (simp; omega)) (by simp [go_sem, l0_3, l1_3, l2_3, c0_1_3])
  have c1_0_4 : w4.cell? ⟨w.heap.size + 1, 0, none⟩ = some (.bool bn) := hB4.keep (by first | (simp; done) | (simp; omega)) (by simp [go_sem, l0_3, l1_3, l2_3, c1_0_3])
  have c1_1_4 : w4.cell? ⟨w.heap.size + 1, 1, none⟩ = some (.int .i64 bv) := hB4.keep (by first | (simp; done) | (simp; omega)) (by simp [go_sem, l0_3, l1_3, l2_3, c1_1_3])
  have c2_0_4 : w4.cell? ⟨w2.heap.size, 0, none⟩ = some (.bool true) := hB4.keep (by first | (simp; done) | (simp; omega)) (by simp [go_sem, l0_3, l1_3, l2_3, c2_0_3])
  have c2_1_4 : w4.cell? ⟨w2.heap.size, 1, none⟩ = some (.int .i64 0) := hB4.keep (by first | (simp; done) | (simp; omega)) (by simp [go_sem, l0_3, l1_3, l2_3, c2_1_3])
  have c3_0_4 : w4.cell? ⟨w3.heap.size, 0, none⟩ = some (.bool true) := hB4.keep (by first | (simp; done) | (simp; omega)) (by simp [go_sem, l0_3, l1_3, l2_3])
  have c3_1_4 : w4.cell? ⟨w3.heap.size, 1, none⟩ = some (.int .i64 0) := hB4.keep (by first | (simp; done) | (simp; omega)) (by simp [go_sem, l0_3, l1_3, l2_3])
  clear c0_0_3 c0_1_3 c1_0_3 c1_1_3 c2_0_3 c2_1_3 l0_3 l1_3 l2_3
  go_wp2_with fail
  refine (mul_any bn an bv av _).mono ?_
  rw [E3.out]
  rintro e w5 ⟨rfl, hB5⟩
  have hz5 := hB5.size
  simp at hz5
  have l0_5 : w.heap.size < w5.heap.size := by omega
  have l1_5 : w.heap.size + 1 < w5.heap.size := by omega
  have l2_5 : w2.heap.size < w5.heap.size := by omega
  have l3_5 : w3.heap.size < w5.heap.size := by omega
  have l4_5 : w4.heap.size < w5.heap.size := by omega
  have c0_0_5 : w5.cell? ⟨w.heap.size, 0, none⟩ = some (.bool an) := hB5.keep (by first | (simp; done) | (simp; omega)) (by simp [go_sem, l0_4, l1_4, l2_4, l3_4, c0_0_4])
  have c0_1_5 : w5.cell? ⟨w.heap.size, 1, none⟩ = some (.int .i64 av) := hB5.keep (by first | (simp; done) | (simp; omega)) (by simp [go_sem, l0_4, l1_4, l2_4, l3_4, c0_1_4])
  have c1_0_5 : w5.cell? ⟨w.heap.size + 1, 0, none⟩ = some (.bool bn) := hB5.keep (by first | (simp; done) | (simp; omega)) (by simp [go_sem, l0_4, l1_4, l2_4, l3_4, c1_0_4])
  have c1_1_5 : w5.cell? ⟨w.heap.size + 1, 1, none⟩ = some (.int .i64 bv) := hB5.keep (by first | (simp; done) | (simp; omega)) (by simp [go_sem, l0_4, l1_4, l2_4, l3_4, c1_1_4])
  have c2_0_5 : w5.cell? ⟨w2.heap.size, 0, none⟩ = some (.bool true) := hB5.keep (by first | (simp; done) | (simp; omega)) (by simp [go_sem, l0_4, l1_4, l2_4, l3_4, c2_0_4])
  have c2_1_5 : w5.cell? ⟨w2.heap.size, 1, none⟩ = some (.int .i64 0) := hB5.keep (by first | (simp; done) | (simp; omega)) (by simp [go_sem, l0_4, l1_4, l2_4, l3_4, c2_1_4])
  have c3_0_5 : w5.cell? ⟨w3.heap.size, 0, none⟩ = some (.bool true) := hB5.keep (by first | (simp; done) | (simp; omega)) (by simp [go_sem, l0_4, l1_4, l2_4, l3_4, c3_0_4])
  have c3_1_5 : w5.cell? ⟨w3.heap.size, 1, none⟩ = some (.int .i64 0) := hB5.keep (by first | (simp; done) | (simp; omega)) (by simp [go_sem, l0_4, l1_4, l2_4, l3_4, c3_1_4])
  have c4_0_5 : w5.cell? ⟨w4.heap.size, 0, none⟩ = some (.bool true) := hB5.keep (by first | (simp; done) | (simp; omega)) (by simp [go_sem, l0_4, l1_4, l2_4, l3_4])
  have c4_1_5 : w5.cell? ⟨w4.heap.size, 1, none⟩ = some (.int .i64 0) := hB5.keep (by first | (simp; done) | (simp; omega)) (by simp [go_sem, l0_4, l1_4, l2_4, l3_4])
  clear c0_0_4 c0_1_4 c1_0_4 c1_1_4 c2_0_4 c2_1_4 c3_0_4 c3_1_4 l0_4 l1_4 l2_4 l3_4
  go_wp2_with fail
  obtain ⟨w6, hW6⟩ : ∃ wz, (w5.alloc (.cells #[.bool true, .int .i64 0] 38)) = wz := ⟨_, rfl⟩
  rw [hW6]
  have hB6 : Ext (w5.alloc (.cells #[.bool true, .int .i64 0] 38)) w6 := by rw [hW6]; exact Ext.refl _
  clear hW6
  have hz6 := hB6.size
  simp at hz6
  have l0_6 : w.heap.size < w6.heap.size := by omega
  have l1_6 : w.heap.size + 1 < w6.heap.size := by omega
  have l2_6 : w2.heap.size < w6.heap.size := by omega
  have l3_6 : w3.heap.size < w6.heap.size := by omega
  have l4_6 : w4.heap.size < w6.heap.size := by omega
  have l5_6 : w5.heap.size < w6.heap.size := by omega
  have c0_0_6 : w6.cell? ⟨w.heap.size, 0, none⟩ = some (.bool an) := hB6.keep (by first | (simp; done) | (simp; omega)) (by simp [go_sem, l0_5, l1_5, l2_5, l3_5, l4_5, c0_0_5])
  have c0_1_6 : w6.cell? ⟨w.heap.size, 1, none⟩ = some (.int .i64 av) := hB6.keep (by first | (simp; done) | (simp; omega)) (by simp [go_sem, l0_5, l1_5, l2_5, l3_5, l4_5, c0_1_5])
  have c1_0_6 : w6.cell? ⟨w.heap.size + 1, 0, none⟩ = some (.bool bn) := hB6.keep (by first | (simp; done) | (simp; omega)) (by simp [go_sem, l0_5, l1_5, l2_5, l3_5, l4_5, c1_0_5])
  have c1_1_6 : w6.cell? ⟨w.heap.size + 1, 1, none⟩ = some (.int .i64 bv) := hB6.keep (by first | (simp; done) | (simp; omega)) (by simp [go_sem, l0_5, l1_5, l2_5, l3_5, l4_5, c1_1_5])
  have c2_0_6 : w6.cell? ⟨w2.heap.size, 0, none⟩ = some (.bool true) := hB6.keep (by first | (simp; done) | (simp; omega)) (by simp [go_sem, l0_5, l1_5, l2_5, l3_5, l4_5, c2_0_5])
  have c2_1_6 : w6.cell? ⟨w2.heap.size, 1, none⟩ = some (.int .i64 0) := hB6.keep (by first | (simp; done) | (simp; omega)) (by simp [go_sem, l0_5, l1_5, l2_5, l3_5, l4_5, c2_1_5])
  have c3_0_6 : w6.cell? ⟨w3.heap.size, 0, none⟩ = some (.bool true) := hB6.keep (by first | (simp; done) | (simp; omega)) (by simp [go_sem, l0_5, l1_5, l2_5, l3_5, l4_5, c3_0_5])
  have c3_1_6 : w6.cell? ⟨w3.heap.size, 1, none⟩ = some (.int .i64 0) := hB6.keep (by first | (simp; done) | (simp; omega)) (by simp [go_sem, l0_5, l1_5, l2_5, l3_5, l4_5, c3_1_5])
  have c4_0_6 : w6.cell? ⟨w4.heap.size, 0, none⟩ = some (.bool true) := hB6.keep (by first | (simp; done) | (simp; omega)) (by simp [go_sem, l0_5, l1_5, l2_5, l3_5, l4_5, c4_0_5])
  have c4_1_6 : w6.cell? ⟨w4.heap.size, 1, none⟩ = some (.int .i64 0) := hB6.keep (by first | (simp; done) | (simp; omega)) (by simp [go_sem, l0_5, l1_5, l2_5, l3_5, l4_5, c4_1_5])
  have c5_0_6 : w6.cell? ⟨w5.heap.size, 0, none⟩ = some (.bool true) := hB6.keep (by first | (simp; done) | (simp; omega)) (by simp [go_sem, l0_5, l1_5, l2_5, l3_5, l4_5])
  have c5_1_6 : w6.cell? ⟨w5.heap.size, 1, none⟩ = some (.int .i64 0) := hB6.keep (by first | (simp; done) | (simp; omega)) (by simp [go_sem, l0_5, l1_5, l2_5, l3_5, l4_5])
  clear c0_0_5 c0_1_5 c1_0_5 c1_1_5 c2_0_5 c2_1_5 c3_0_5 c3_1_5 c4_0_5 c4_1_5 l0_5 l1_5 l2_5 l3_5 l4_5
  go_wp2_with fail
  refine (rodd_any an av _).mono ?_
  rw [HA.out]
  rintro e w7 ⟨rfl, hB7⟩
  have hz7 := hB7.size
  have l0_7 : w.heap.size < w7.heap.size := by omega
  have l1_7 : w.heap.size + 1 < w7.heap.size := by omega
  have l2_7 : w2.heap.size < w7.heap.size := by omega
  have l3_7 : w3.heap.size < w7.heap.size := by omega
  have l4_7 : w4.heap.size < w7.heap.size := by omega
  have l5_7 : w5.heap.size < w7.heap.size := by omega
  have c0_0_7 : w7.cell? ⟨w.heap.size, 0, none⟩ = some (.bool an) := hB7.keep (by omega) c0_0_6
  have c0_1_7 : w7.cell? ⟨w.heap.size, 1, none⟩ = some (.int .i64 av) := hB7.keep (by omega) c0_1_6
  have c1_0_7 : w7.cell? ⟨w.heap.size + 1, 0, none⟩ = some (.bool bn) := hB7.keep (by omega) c1_0_6
  have c1_1_7 : w7.cell? ⟨w.heap.size + 1, 1, none⟩ = some (.int .i64 bv) := hB7.keep (by omega) c1_1_6
  have c2_0_7 : w7.cell? ⟨w2.heap.size, 0, none⟩ = some (.bool true) := hB7.keep (by omega) c2_0_6
  have c2_1_7 : w7.cell? ⟨w2.heap.size, 1, none⟩ = some (.int .i64 0) := hB7.keep (by omega) c2_1_6
  have c3_0_7 : w7.cell? ⟨w3.heap.size, 0, none⟩ = some (.bool true) := hB7.keep (by omega) c3_0_6
  have c3_1_7 : w7.cell? ⟨w3.heap.size, 1, none⟩ = some (.int .i64 0) := hB7.keep (by omega) c3_1_6
  have c4_0_7 : w7.cell? ⟨w4.heap.size, 0, none⟩ = some (.bool true) := hB7.keep (by omega) c4_0_6
  have c4_1_7 : w7.cell? ⟨w4.heap.size, 1, none⟩ = some (.int .i64 0) := hB7.keep (by omega) c4_1_6
  have c5_0_7 : w7.cell? ⟨w5.heap.size, 0, none⟩ = some (.bool true) := hB7.keep (by omega) c5_0_6
  have c5_1_7 : w7.cell? ⟨w5.heap.size, 1, none⟩ = some (.int .i64 0) := hB7.keep (by omega) c5_1_6
  clear c0_0_6 c0_1_6 c1_0_6 c1_1_6 c2_0_6 c2_1_6 c3_0_6 c3_1_6 c4_0_6 c4_1_6 c5_0_6 c5_1_6 l0_6 l1_6 l2_6 l3_6 l4_6 l5_6
  go_wp2_with fail
  refine (rodd_any bn bv _).mono ?_
  rw [HB.out]
  rintro e w8 ⟨rfl, hB8⟩
  have hz8 := hB8.size
  have l0_8 : w.heap.size < w8.heap.size := by omega
  have l1_8 : w.heap.size + 1 < w8.heap.size := by omega
  have l2_8 : w2.heap.size < w8.heap.size := by omega
  have l3_8 : w3.heap.size < w8.heap.size := by omega
  have l4_8 : w4.heap.size < w8.heap.size := by omega
  have l5_8 : w5.heap.size < w8.heap.size := by omega
  have c0_0_8 : w8.cell? ⟨w.heap.size, 0, none⟩ = some (.bool an) := hB8.keep (by omega) c0_0_7
  have c0_1_8 : w8.cell? ⟨w.heap.size, 1, none⟩ = some (.int .i64 av) := hB8.keep (by omega) c0_1_7
  have c1_0_8 : w8.cell? ⟨w.heap.size + 1, 0, none⟩ = some (.bool bn) := hB8.keep (by omega) c1_0_7
  have c1_1_8 : w8.cell? ⟨w.heap.size + 1, 1, none⟩ = some (.int .i64 bv) := hB8.keep (by omega) c1_1_7
  have c2_0_8 : w8.cell? ⟨w2.heap.size, 0, none⟩ = some (.bool true) := hB8.keep (by omega) c2_0_7
  have c2_1_8 : w8.cell? ⟨w2.heap.size, 1, none⟩ = some (.int .i64 0) := hB8.keep (by omega) c2_1_7
  have c3_0_8 : w8.cell? ⟨w3.heap.size, 0, none⟩ = some (.bool true) := hB8.keep (by omega) c3_0_7
  have c3_1_8 : w8.cell? ⟨w3.heap.size, 1, none⟩ = some (.int .i64 0) := hB8.keep (by omega) c3_1_7
  have c4_0_8 : w8.cell? ⟨w4.heap.size, 0, none⟩ = some (.bool true) := hB8.keep (by omega) c4_0_7
  have c4_1_8 : w8.cell? ⟨w4.heap.size, 1, none⟩ = some (.int .i64 0) := hB8.keep (by omega) c4_1_7
  have c5_0_8 : w8.cell? ⟨w5.heap.size, 0, none⟩ = some (.bool true) := hB8.keep (by omega) c5_0_7
  have c5_1_8 : w8.cell? ⟨w5.heap.size, 1, none⟩ = some (.int .i64 0) := hB8.keep (by omega) c5_1_7
  clear c0_0_7 c0_1_7 c1_0_7 c1_1_7 c2_0_7 c2_1_7 c3_0_7 c3_1_7 c4_0_7 c4_1_7 c5_0_7 c5_1_7 l0_7 l1_7 l2_7 l3_7 l4_7 l5_7
  go_wp2_with fail
  go_ret
  refine ⟨rfl, ?_⟩
  repeat (first | exact Ext.refl _ | refine Ext.set ?_ (by dsimp only; omega) _ | refine Ext.alloc ?_ _ | refine Ext.drew ?_ | refine (Ext.trans ?_ (by assumption)))
set_option maxHeartbeats 8000000 in
theorem rules_fit_zero (av bv : Int) (w : World) (G : Glob w) (ha : oddB false av = false) (hb : oddB false bv = false) (hf : oddB false (av + bv) = false) (hz : bv = 0) :
    Calls Tryd.prog 8 #[.agg #[.bool false, .int .i64 av], .agg #[.bool false, .int .i64 bv]] w fun e w' => e = .returned (.bool true) ∧ Ext w w' := by
  have hF : fitS (av + bv) = ((false, av + bv), 0) := by
    obtain ⟨_, a1, a2⟩ := oddB_false hf
    exact fitS_in a1 a2
  obtain ⟨⟨⟨r1, s1⟩, t1⟩, er1⟩ : ∃ r, mulS av bv = r := ⟨_, rfl⟩
  have E0 : Hid (two false false av bv (fitS (av + bv)) = ((false, av + bv), 0)) := by refine Lib.hid ?_; rw [both_ok _ _ _ ha hb, hF]
  have E1 : Hid (two false false bv av (fitS (bv + av)) = ((false, av + bv), 0)) := by refine Lib.hid ?_; rw [both_ok _ _ _ hb ha, Int.add_comm, hF]
  have E2 : Hid (two false false av bv (mulS av bv) = ((r1, s1), t1)) := by refine Lib.hid ?_; rw [both_ok _ _ _ ha hb, er1]
  have E3 : Hid (two false false bv av (mulS bv av) = ((r1, s1), t1)) := by refine Lib.hid ?_; rw [both_ok _ _ _ hb ha, mulS_turn, er1]
  have E4 : Hid (two false false (av + bv) bv (fitS (av + bv - bv)) = ((false, av), 0)) := by
    refine Lib.hid ?_
    obtain ⟨_, a1, a2⟩ := oddB_false ha
    rw [both_ok _ _ _ hf hb, show av + bv - bv = av by omega, fitS_in a1 a2]
  have E5 : Hid (two false false av bv (modS av bv) = ((false, 0), 67)) := by refine Lib.hid ?_; rw [both_ok _ _ _ ha hb, modS, if_pos hz]
  have HZ := Lib.hid hz; clear hz
  have HA := Lib.hid ha
  have HB := Lib.hid hb
  clear er1 hF ha hb hf
  go_enter Tryd.func8, Tryd.ntmps8
  go_wp2_with fail
  refine (awake3 _ ((G.alloc _).alloc _)).mono ?_
  rintro e w1 ⟨rfl, hB1⟩
  have hz1 := hB1.size
  simp at hz1
  have l0_1 : w.heap.size < w1.heap.size := by omega
  have l1_1 : w.heap.size + 1 < w1.heap.size := by omega
  have c0_0_1 : w1.cell? ⟨w.heap.size, 0, none⟩ = some (.bool false) := hB1.keep (by first | (simp; done) | (simp; omega)) (by simp [go_sem])
  have c0_1_1 : w1.cell? ⟨w.heap.size, 1, none⟩ = some (.int .i64 av) := hB1.keep (by first | (simp; done) | (simp; omega)) (by simp [go_sem])
  have c1_0_1 : w1.cell? ⟨w.heap.size + 1, 0, none⟩ = some (.bool false) := hB1.keep (by first | (simp; done) | (simp; omega)) (by simp [go_sem])
  have c1_1_1 : w1.cell? ⟨w.heap.size + 1, 1, none⟩ = some (.int .i64 bv) := hB1.keep (by first | (simp; done) | (simp; omega)) (by simp [go_sem])
  go_wp2_with fail
  refine (add_any false false av bv _).mono ?_
  rw [E0.out]
  rintro e w2 ⟨rfl, hB2⟩
  have hz2 := hB2.size
  have l0_2 : w.heap.size < w2.heap.size := by omega
  have l1_2 : w.heap.size + 1 < w2.heap.size := by omega
  have c0_0_2 : w2.cell? ⟨w.heap.size, 0, none⟩ = some (.bool false) := hB2.keep (by omega) c0_0_1
  have c0_1_2 : w2.cell? ⟨w.heap.size, 1, none⟩ = some (.int .i64 av) := hB2.keep (by omega) c0_1_1
  have c1_0_2 : w2.cell? ⟨w.heap.size + 1, 0, none⟩ = some (.bool false) := hB2.keep (by omega) c1_0_1
  have c1_1_2 : w2.cell? ⟨w.heap.size + 1, 1, none⟩ = some (.int .i64 bv) := hB2.keep (by omega) c1_1_1
  clear c0_0_1 c0_1_1 c1_0_1 c1_1_1 l0_1 l1_1
  go_wp2_with fail
  refine (add_any false false bv av _).mono ?_
  rw [E1.out]
  rintro e w3 ⟨rfl, hB3⟩
  have hz3 := hB3.size
  simp at hz3
  have l0_3 : w.heap.size < w3.heap.size := by omega
  have l1_3 : w.heap.size + 1 < w3.heap.size := by omega
  have l2_3 : w2.heap.size < w3.heap.size := by omega
  have c0_0_3 : w3.cell? ⟨w.heap.size, 0, none⟩ = some (.bool false) := hB3.keep (by first | (simp; done) | (simp; omega)) (by simp [go_sem, l0_2, l1_2, c0_0_2])
  have c0_1_3 : w3.cell? ⟨w.heap.size, 1, none⟩ = some (.int .i64 av) := hB3.keep (by first | (simp; done) | (simp; omega)) (by simp [go_sem, l0_2, l1_2, c0_1_2])
  have c1_0_3 : w3.cell? ⟨w.heap.size + 1, 0, none⟩ = some (.bool false) := hB3.keep (by first | (simp; done) | (simp; omega)) (by simp [go_sem, l0_2, l1_2, c1_0_2])
  have c1_1_3 : w3.cell? ⟨w.heap.size + 1, 1, none⟩ = some (.int .i64 bv) := hB3.keep (by first | (simp; done) | (simp; omega)) (by simp [go_sem, l0_2, l1_2, c1_1_2])
  have c2_0_3 : w3.cell? ⟨w2.heap.size, 0, none⟩ = some (.bool false) := hB3.keep (by first | (simp; done) | (simp; omega)) (by simp [go_sem, l0_2, l1_2])
  have c2_1_3 : w3.cell? ⟨w2.heap.size, 1, none⟩ = some (.int .i64 (av + bv)) := hB3.keep (by first | (simp; done) | (simp; omega)) (by simp [go_sem, l0_2, l1_2])
  clear c0_0_2 c0_1_2 c1_0_2 c1_1_2 l0_2 l1_2
  go_wp2_with fail
  refine (mul_any false false av bv _).mono ?_
  rw [E2.out]
  rintro e w4 ⟨rfl, hB4⟩
  have hz4 := hB4.size
  simp at hz4
  have l0_4 : w.heap.size < w4.heap.size := by omega
  have l1_4 : w.heap.size + 1 < w4.heap.size := by omega
  have l2_4 : w2.heap.size < w4.heap.size := by omega
  have l3_4 : w3.heap.size < w4.heap.size := by omega
  have c0_0_4 : w4.cell? ⟨w.heap.size, 0, none⟩ = some (.bool false) := hB4.keep (by first | (simp; done) | (simp; omega)) (by simp [go_sem, l0_3, l1_3, l2_3, c0_0_3])
  have c0_1_4 : w4.cell? ⟨w.heap.size, 1, none⟩ = some (.int .i64 av) := hB4.keep (by first | (simp; done) | (simp; omega)) (by simp [go_sem, l0_3, l1_3, l2_3, c0_1_3])
  have c1_0_4 : w4.cell? ⟨w.heap.size + 1, 0, none⟩ = some (.bool false) := hB4.keep (by first | (simp; done) | (simp; omega)) (by simp [go_sem, l0_3, l1_3, l2_3, c1_0_3])
  have c1_1_4 : w4.cell? ⟨w.heap.size + 1, 1, none⟩ = some (.int .i64 bv) := hB4.keep (by first | (simp; done) | (simp; omega)) (by simp [go_sem, l0_3, l1_3, l2_3, c1_1_3])
  have c2_0_4 : w4.cell? ⟨w2.heap.size, 0, none⟩ = some (.bool false) := hB4.keep (by first | (simp; done) | (simp; omega)) (by simp [go_sem, l0_3, l1_3, l2_3, c2_0_3])
  have c2_1_4 : w4.cell? ⟨w2.heap.size, 1, none⟩ = some (.int .i64 (av + bv)) := hB4.keep (by first | (simp; done) | (simp; omega)) (by simp [go_sem, l0_3, l1_3, l2_3, c2_1_3])
  have c3_0_4 : w4.cell? ⟨w3.heap.size, 0, none⟩ = some (.bool false) := hB4.keep (by first | (simp; done) | (simp; omega)) (by simp [go_sem, l0_3, l1_3, l2_3])
  have c3_1_4 : w4.cell? ⟨w3.heap.size, 1, none⟩ = some (.int .i64 (av + bv)) := hB4.keep (by first | (simp; done) | (simp; omega)) (by simp [go_sem, l0_3, l1_3, l2_3])
  clear c0_0_3 c0_1_3 c1_0_3 c1_1_3 c2_0_3 c2_1_3 l0_3 l1_3 l2_3
  go_wp2_with fail
  refine (mul_any false false bv av _).mono ?_
  rw [E3.out]
  rintro e w5 ⟨rfl, hB5⟩
  have hz5 := hB5.size
  simp at hz5
  have l0_5 : w.heap.size < w5.heap.size := by omega
  have l1_5 : w.heap.size + 1 < w5.heap.size := by omega
  have l2_5 : w2.heap.size < w5.heap.size := by omega
  have l3_5 : w3.heap.size < w5.heap.size := by omega
  have l4_5 : w4.heap.size < w5.heap.size := by omega
  have c0_0_5 : w5.cell? ⟨w.heap.size, 0, none⟩ = some (.bool false) := hB5.keep (by first | (simp; done) | (simp; omega)) (by simp [go_sem, l0_4, l1_4, l2_4, l3_4, c0_0_4])
  have c0_1_5 : w5.cell? ⟨w.heap.size, 1, none⟩ = some (.int .i64 av) := hB5.keep (by first | (simp; done) | (simp; omega)) (by simp [go_sem, l0_4, l1_4, l2_4, l3_4, c0_1_4])
  have c1_0_5 : w5.cell? ⟨w.heap.size + 1, 0, none⟩ = some (.bool false) := hB5.keep (by first | (simp; done) | (simp; omega)) (by simp [go_sem, l0_4, l1_4, l2_4, l3_4, c1_0_4])
  have c1_1_5 : w5.cell? ⟨w.heap.size + 1, 1, none⟩ = some (.int .i64 bv) := hB5.keep (by first | (simp; done) | (simp; omega)) (by simp [go_sem, l0_4, l1_4, l2_4, l3_4, c1_1_4])
  have c2_0_5 : w5.cell? ⟨w2.heap.size, 0, none⟩ = some (.bool false) := hB5.keep (by first | (simp; done) | (simp; omega)) (by simp [go_sem, l0_4, l1_4, l2_4, l3_4, c2_0_4])
  have c2_1_5 : w5.cell? ⟨w2.heap.size, 1, none⟩ = some (.int .i64 (av + bv)) := hB5.keep (by first | (simp; done) | (simp; omega)) (by simp [go_sem, l0_4, l1_4, l2_4, l3_4, c2_1_4])
  have c3_0_5 : w5.cell? ⟨w3.heap.size, 0, none⟩ = some (.bool false) := hB5.keep (by first | (simp; done) | (simp; omega)) (by simp [go_sem, l0_4, l1_4, l2_4, l3_4, c3_0_4])
  have c3_1_5 : w5.cell? ⟨w3.heap.size, 1, none⟩ = some (.int .i64 (av + bv)) := hB5.keep (by first | (simp; done) | (simp; omega)) (by simp [go_sem, l0_4, l1_4, l2_4, l3_4, c3_1_4])
  have c4_0_5 : w5.cell? ⟨w4.heap.size, 0, none⟩ = some (.bool r1) := hB5.keep (by first | (simp; done) | (simp; omega)) (by simp [go_sem, l0_4, l1_4, l2_4, l3_4])
  have c4_1_5 : w5.cell? ⟨w4.heap.size, 1, none⟩ = some (.int .i64 s1) := hB5.keep (by first | (simp; done) | (simp; omega)) (by simp [go_sem, l0_4, l1_4, l2_4, l3_4])
  clear c0_0_4 c0_1_4 c1_0_4 c1_1_4 c2_0_4 c2_1_4 c3_0_4 c3_1_4 l0_4 l1_4 l2_4 l3_4
  go_wp2_with fail
  obtain ⟨w6, hW6⟩ : ∃ wz, (w5.alloc (.cells #[.bool r1, .int .i64 s1] 38)) = wz := ⟨_, rfl⟩
  rw [hW6]
  have hB6 : Ext (w5.alloc (.cells #[.bool r1, .int .i64 s1] 38)) w6 := by rw [hW6]; exact Ext.refl _
  clear hW6
  have hz6 := hB6.size
  simp at hz6
  have l0_6 : w.heap.size < w6.heap.size := by omega
  have l1_6 : w.heap.size + 1 < w6.heap.size := by omega
  have l2_6 : w2.heap.size < w6.heap.size := by omega
  have l3_6 : w3.heap.size < w6.heap.size := by omega
  have l4_6 : w4.heap.size < w6.heap.size := by omega
  have l5_6 : w5.heap.size < w6.heap.size := by omega
  have c0_0_6 : w6.cell? ⟨w.heap.size, 0, none⟩ = some (.bool false) := hB6.keep (by first | (simp; done) | (simp; omega)) (by simp [go_sem, l0_5, l1_5, l2_5, l3_5, l4_5, c0_0_5])
  have c0_1_6 : w6.cell? ⟨w.heap.size, 1, none⟩ = some (.int .i64 av) := hB6.keep (by first | (simp; done) | (simp; omega)) (by simp [go_sem, l0_5, l1_5, l2_5, l3_5, l4_5, c0_1_5])
  have c1_0_6 : w6.cell? ⟨w.heap.size + 1, 0, none⟩ = some (.bool false) := hB6.keep (by first | (simp; done) | (simp; omega)) (by simp [go_sem, l0_5, l1_5, l2_5, l3_5, l4_5, c1_0_5])
  have c1_1_6 : w6.cell? ⟨w.heap.size + 1, 1, none⟩ = some (.int .i64 bv) := hB6.keep (by first | (simp; done) | (simp; omega)) (by simp [go_sem, l0_5, l1_5, l2_5, l3_5, l4_5, c1_1_5])
  have c2_0_6 : w6.cell? ⟨w2.heap.size, 0, none⟩ = some (.bool false) := hB6.keep (by first | (simp; done) | (simp; omega)) (by simp [go_sem, l0_5, l1_5, l2_5, l3_5, l4_5, c2_0_5])
  have c2_1_6 : w6.cell? ⟨w2.heap.size, 1, none⟩ = some (.int .i64 (av + bv)) := hB6.keep (by first | (simp; done) | (simp; omega)) (by simp [go_sem, l0_5, l1_5, l2_5, l3_5, l4_5, c2_1_5])
  have c3_0_6 : w6.cell? ⟨w3.heap.size, 0, none⟩ = some (.bool false) := hB6.keep (by first | (simp; done) | (simp; omega)) (by simp [go_sem, l0_5, l1_5, l2_5, l3_5, l4_5, c3_0_5])
  have c3_1_6 : w6.cell? ⟨w3.heap.size, 1, none⟩ = some (.int .i64 (av + bv)) := hB6.keep (by first | (simp; done) | (simp; omega)) (by simp [go_sem, l0_5, l1_5, l2_5, l3_5, l4_5, c3_1_5])
  have c4_0_6 : w6.cell? ⟨w4.heap.size, 0, none⟩ = some (.bool r1) := hB6.keep (by first | (simp; done) | (simp; omega)) (by simp [go_sem, l0_5, l1_5, l2_5, l3_5, l4_5, c4_0_5])
  have c4_1_6 : w6.cell? ⟨w4.heap.size, 1, none⟩ = some (.int .i64 s1) := hB6.keep (by first | (simp; done) | (simp; omega)) (by simp [go_sem, l0_5, l1_5, l2_5, l3_5, l4_5, c4_1_5])
  have c5_0_6 : w6.cell? ⟨w5.heap.size, 0, none⟩ = some (.bool r1) := hB6.keep (by first | (simp; done) | (simp; omega)) (by simp [go_sem, l0_5, l1_5, l2_5, l3_5, l4_5])
  have c5_1_6 : w6.cell? ⟨w5.heap.size, 1, none⟩ = some (.int .i64 s1) := hB6.keep (by first | (simp; done) | (simp; omega)) (by simp [go_sem, l0_5, l1_5, l2_5, l3_5, l4_5])
  clear c0_0_5 c0_1_5 c1_0_5 c1_1_5 c2_0_5 c2_1_5 c3_0_5 c3_1_5 c4_0_5 c4_1_5 l0_5 l1_5 l2_5 l3_5 l4_5
  go_wp2_with fail
  refine (rodd_any false av _).mono ?_
  rw [HA.out]
  rintro e w7 ⟨rfl, hB7⟩
  have hz7 := hB7.size
  have l0_7 : w.heap.size < w7.heap.size := by omega
  have l1_7 : w.heap.size + 1 < w7.heap.size := by omega
  have l2_7 : w2.heap.size < w7.heap.size := by omega
  have l3_7 : w3.heap.size < w7.heap.size := by omega
  have l4_7 : w4.heap.size < w7.heap.size := by omega
  have l5_7 : w5.heap.size < w7.heap.size := by omega
  have c0_0_7 : w7.cell? ⟨w.heap.size, 0, none⟩ = some (.bool false) := hB7.keep (by omega) c0_0_6
  have c0_1_7 : w7.cell? ⟨w.heap.size, 1, none⟩ = some (.int .i64 av) := hB7.keep (by omega) c0_1_6
  have c1_0_7 : w7.cell? ⟨w.heap.size + 1, 0, none⟩ = some (.bool false) := hB7.keep (by omega) c1_0_6
  have c1_1_7 : w7.cell? ⟨w.heap.size + 1, 1, none⟩ = some (.int .i64 bv) := hB7.keep (by omega) c1_1_6
  have c2_0_7 : w7.cell? ⟨w2.heap.size, 0, none⟩ = some (.bool false) := hB7.keep (by omega) c2_0_6
  have c2_1_7 : w7.cell? ⟨w2.heap.size, 1, none⟩ = some (.int .i64 (av + bv)) := hB7.keep (by omega) c2_1_6
  have c3_0_7 : w7.cell? ⟨w3.heap.size, 0, none⟩ = some (.bool false) := hB7.keep (by omega) c3_0_6
  have c3_1_7 : w7.cell? ⟨w3.heap.size, 1, none⟩ = some (.int .i64 (av + bv)) := hB7.keep (by omega) c3_1_6
  have c4_0_7 : w7.cell? ⟨w4.heap.size, 0, none⟩ = some (.bool r1) := hB7.keep (by omega) c4_0_6
  have c4_1_7 : w7.cell? ⟨w4.heap.size, 1, none⟩ = some (.int .i64 s1) := hB7.keep (by omega) c4_1_6
  have c5_0_7 : w7.cell? ⟨w5.heap.size, 0, none⟩ = some (.bool r1) := hB7.keep (by omega) c5_0_6
  have c5_1_7 : w7.cell? ⟨w5.heap.size, 1, none⟩ = some (.int .i64 s1) := hB7.keep (by omega) c5_1_6
  clear c0_0_6 c0_1_6 c1_0_6 c1_1_6 c2_0_6 c2_1_6 c3_0_6 c3_1_6 c4_0_6 c4_1_6 c5_0_6 c5_1_6 l0_6 l1_6 l2_6 l3_6 l4_6 l5_6
  go_wp2_with fail
  refine (rodd_any false bv _).mono ?_
  rw [HB.out]
  rintro e w8 ⟨rfl, hB8⟩
  have hz8 := hB8.size
  have l0_8 : w.heap.size < w8.heap.size := by omega
  have l1_8 : w.heap.size + 1 < w8.heap.size := by omega
  have l2_8 : w2.heap.size < w8.heap.size := by omega
  have l3_8 : w3.heap.size < w8.heap.size := by omega
  have l4_8 : w4.heap.size < w8.heap.size := by omega
  have l5_8 : w5.heap.size < w8.heap.size := by omega
  have c0_0_8 : w8.cell? ⟨w.heap.size, 0, none⟩ = some (.bool false) := hB8.keep (by omega) c0_0_7
  have c0_1_8 : w8.cell? ⟨w.heap.size, 1, none⟩ = some (.int .i64 av) := hB8.keep (by omega) c0_1_7
  have c1_0_8 : w8.cell? ⟨w.heap.size + 1, 0, none⟩ = some (.bool false) := hB8.keep (by omega) c1_0_7
  have c1_1_8 : w8.cell? ⟨w.heap.size + 1, 1, none⟩ = some (.int .i64 bv) := hB8.keep (by omega) c1_1_7
  have c2_0_8 : w8.cell? ⟨w2.heap.size, 0, none⟩ = some (.bool false) := hB8.keep (by omega) c2_0_7
  have c2_1_8 : w8.cell? ⟨w2.heap.size, 1, none⟩ = some (.int .i64 (av + bv)) := hB8.keep (by omega) c2_1_7
  have c3_0_8 : w8.cell? ⟨w3.heap.size, 0, none⟩ = some (.bool false) := hB8.keep (by omega) c3_0_7
  have c3_1_8 : w8.cell? ⟨w3.heap.size, 1, none⟩ = some (.int .i64 (av + bv)) := hB8.keep (by omega) c3_1_7
  have c4_0_8 : w8.cell? ⟨w4.heap.size, 0, none⟩ = some (.bool r1) := hB8.keep (by omega) c4_0_7
  have c4_1_8 : w8.cell? ⟨w4.heap.size, 1, none⟩ = some (.int .i64 s1) := hB8.keep (by omega) c4_1_7
  have c5_0_8 : w8.cell? ⟨w5.heap.size, 0, none⟩ = some (.bool r1) := hB8.keep (by omega) c5_0_7
  have c5_1_8 : w8.cell? ⟨w5.heap.size, 1, none⟩ = some (.int .i64 s1) := hB8.keep (by omega) c5_1_7
  clear c0_0_7 c0_1_7 c1_0_7 c1_1_7 c2_0_7 c2_1_7 c3_0_7 c3_1_7 c4_0_7 c4_1_7 c5_0_7 c5_1_7 l0_7 l1_7 l2_7 l3_7 l4_7 l5_7
  go_wp2_with fail
  refine (sub_any false false (av + bv) bv _).mono ?_
  rw [E4.out]
  rintro e w9 ⟨rfl, hB9⟩
  have hz9 := hB9.size
  have l0_9 : w.heap.size < w9.heap.size := by omega
  have l1_9 : w.heap.size + 1 < w9.heap.size := by omega
  have l2_9 : w2.heap.size < w9.heap.size := by omega
  have l3_9 : w3.heap.size < w9.heap.size := by omega
  have l4_9 : w4.heap.size < w9.heap.size := by omega
  have l5_9 : w5.heap.size < w9.heap.size := by omega
  have c0_0_9 : w9.cell? ⟨w.heap.size, 0, none⟩ = some (.bool false) := hB9.keep (by omega) c0_0_8
  have c0_1_9 : w9.cell? ⟨w.heap.size, 1, none⟩ = some (.int .i64 av) := hB9.keep (by omega) c0_1_8
  have c1_0_9 : w9.cell? ⟨w.heap.size + 1, 0, none⟩ = some (.bool false) := hB9.keep (by omega) c1_0_8
  have c1_1_9 : w9.cell? ⟨w.heap.size + 1, 1, none⟩ = some (.int .i64 bv) := hB9.keep (by omega) c1_1_8
  have c2_0_9 : w9.cell? ⟨w2.heap.size, 0, none⟩ = some (.bool false) := hB9.keep (by omega) c2_0_8
  have c2_1_9 : w9.cell? ⟨w2.heap.size, 1, none⟩ = some (.int .i64 (av + bv)) := hB9.keep (by omega) c2_1_8
  have c3_0_9 : w9.cell? ⟨w3.heap.size, 0, none⟩ = some (.bool false) := hB9.keep (by omega) c3_0_8
  have c3_1_9 : w9.cell? ⟨w3.heap.size, 1, none⟩ = some (.int .i64 (av + bv)) := hB9.keep (by omega) c3_1_8
  have c4_0_9 : w9.cell? ⟨w4.heap.size, 0, none⟩ = some (.bool r1) := hB9.keep (by omega) c4_0_8
  have c4_1_9 : w9.cell? ⟨w4.heap.size, 1, none⟩ = some (.int .i64 s1) := hB9.keep (by omega) c4_1_8
  have c5_0_9 : w9.cell? ⟨w5.heap.size, 0, none⟩ = some (.bool r1) := hB9.keep (by omega) c5_0_8
  have c5_1_9 : w9.cell? ⟨w5.heap.size, 1, none⟩ = some (.int .i64 s1) := hB9.keep (by omega) c5_1_8
  clear c0_0_8 c0_1_8 c1_0_8 c1_1_8 c2_0_8 c2_1_8 c3_0_8 c3_1_8 c4_0_8 c4_1_8 c5_0_8 c5_1_8 l0_8 l1_8 l2_8 l3_8 l4_8 l5_8
  go_wp2_with fail
  refine (mod_any false false av bv _).mono ?_
  rw [E5.out]
  rintro e w10 ⟨rfl, hB10⟩
  have hz10 := hB10.size
  simp at hz10
  have l0_10 : w.heap.size < w10.heap.size := by omega
  have l1_10 : w.heap.size + 1 < w10.heap.size := by omega
  have l2_10 : w2.heap.size < w10.heap.size := by omega
  have l3_10 : w3.heap.size < w10.heap.size := by omega
  have l4_10 : w4.heap.size < w10.heap.size := by omega
  have l5_10 : w5.heap.size < w10.heap.size := by omega
  have l6_10 : w9.heap.size < w10.heap.size := by omega
  have c0_0_10 : w10.cell? ⟨w.heap.size, 0, none⟩ = some (.bool false) := hB10.keep (by first | (simp; done) | (simp; omega)) (by simp [go_sem, l0_9, l1_9, l2_9, l3_9, l4_9, l5_9, c0_0_9])
  have c0_1_10 : w10.cell? ⟨w.heap.size, 1, none⟩ = some (.int .i64 av) := hB10.keep (by first | (simp; done) | (simp; omega)) (by simp [go_sem, l0_9, l1_9, l2_9, l3_9, l4_9, l5_9, c0_1_9])
  have c1_0_10 : w10.cell? ⟨w.heap.size + 1, 0, none⟩ = some (.bool false) := hB10.keep (by first | (simp; done) | (simp; omega)) (by simp [go_sem, l0_9, l1_9, l2_9, l3_9, l4_9, l5_9, c1_0_9])
  have c1_1_10 : w10.cell? ⟨w.heap.size + 1, 1, none⟩ = some (.int .i64 bv) := hB10.keep (by first | (simp; done) | (simp; omega)) (by simp [go_sem, l0_9, l1_9, l2_9, l3_9, l4_9, l5_9, c1_1_9])
  have c2_0_10 : w10.cell? ⟨w2.heap.size, 0, none⟩ = some (.bool false) := hB10.keep (by first | (simp; done) | (simp; omega)) (by simp [go_sem, l0_9, l1_9, l2_9, l3_9, l4_9, l5_9, c2_0_9])
  have c2_1_10 : w10.cell? ⟨w2.heap.size, 1, none⟩ = some (.int .i64 (av + bv)) := hB10.keep (by first | (simp; done) | (simp; omega)) (by simp [go_sem, l0_9, l1_9, l2_9, l3_9, l4_9, l5_9, c2_1_9])
  have c3_0_10 : w10.cell? ⟨w3.heap.size, 0, none⟩ = some (.bool false) := hB10.keep (by first | (simp; done) | (simp; omega)) (by simp [go_sem, l0_9, l1_9, l2_9, l3_9, l4_9, l5_9, c3_0_9])
  have c3_1_10 : w10.cell? ⟨w3.heap.size, 1, none⟩ = some (.int .i64 (av + bv)) := hB10.keep (by first | (simp; done) | (simp; omega)) (by simp [go_sem, l0_9, l1_9, l2_9, l3_9, l4_9, l5_9, c3_1_9])
  have c4_0_10 : w10.cell? ⟨w4.heap.size, 0, none⟩ = some (.bool r1) := hB10.keep (by first | (simp; done) | (simp; omega)) (by simp [go_sem, l0_9, l1_9, l2_9, l3_9, l4_9, l5_9, c4_0_9])
  have c4_1_10 : w10.cell? ⟨w4.heap.size, 1, none⟩ = some (.int .i64 s1) := hB10.keep (by first | (simp; done) | (simp; omega)) (by simp [go_sem, l0_9, l1_9, l2_9, l3_9, l4_9, l5_9, c4_1_9])
  have c5_0_10 : w10.cell? ⟨w5.heap.size, 0, none⟩ = some (.bool r1) := hB10.keep (by first | (simp; done) | (simp; omega)) (by simp [go_sem, l0_9, l1_9, l2_9, l3_9, l4_9, l5_9, c5_0_9])
  have c5_1_10 : w10.cell? ⟨w5.heap.size, 1, none⟩ = some (.int .i64 s1) := hB10.keep (by first | (simp; done) | (simp; omega)) (by simp [go_sem, l0_9, l1_9, l2_9, l3_9, l4_9, l5_9, c5_1_9])
  have c6_0_10 : w10.cell? ⟨w9.heap.size, 0, none⟩ = some (.bool false) := hB10.keep (by first | (simp; done) | (simp; omega)) (by simp [go_sem, l0_9, l1_9, l2_9, l3_9, l4_9, l5_9])
  have c6_1_10 : w10.cell? ⟨w9.heap.size, 1, none⟩ = some (.int .i64 av) := hB10.keep (by first | (simp; done) | (simp; omega)) (by simp [go_sem, l0_9, l1_9, l2_9, l3_9, l4_9, l5_9])
  clear c0_0_9 c0_1_9 c1_0_9 c1_1_9 c2_0_9 c2_1_9 c3_0_9 c3_1_9 c4_0_9 c4_1_9 c5_0_9 c5_1_9 l0_9 l1_9 l2_9 l3_9 l4_9 l5_9
  have hz := HZ.out
  clear HZ
  subst hz
  go_wp2_with fail
  obtain ⟨w11, hW11⟩ : ∃ wz, (w10.alloc (.cells #[.bool false, .int .i64 0] 38)) = wz := ⟨_, rfl⟩
  rw [hW11]
  have hB11 : Ext (w10.alloc (.cells #[.bool false, .int .i64 0] 38)) w11 := by rw [hW11]; exact Ext.refl _
  clear hW11
  have hz11 := hB11.size
  simp at hz11
  have l0_11 : w.heap.size < w11.heap.size := by omega
  have l1_11 : w.heap.size + 1 < w11.heap.size := by omega
  have l2_11 : w2.heap.size < w11.heap.size := by omega
  have l3_11 : w3.heap.size < w11.heap.size := by omega
  have l4_11 : w4.heap.size < w11.heap.size := by omega
  have l5_11 : w5.heap.size < w11.heap.size := by omega
  have l6_11 : w9.heap.size < w11.heap.size := by omega
  have l7_11 : w10.heap.size < w11.heap.size := by omega
  have c0_0_11 : w11.cell? ⟨w.heap.size, 0, none⟩ = some (.bool false) := hB11.keep (by first | (simp; done) | (simp; omega)) (by simp [go_sem, l0_10, l1_10, l2_10, l3_10, l4_10, l5_10, l6_10, c0_0_10])
  have c0_1_11 : w11.cell? ⟨w.heap.size, 1, none⟩ = some (.int .i64 av) := hB11.keep (by first | (simp; done) | (simp; omega)) (by simp [go_sem, l0_10, l1_10, l2_10, l3_10, l4_10, l5_10, l6_10, c0_1_10])
  have c1_0_11 : w11.cell? ⟨w.heap.size + 1, 0, none⟩ = some (.bool false) := hB11.keep (by first | (simp; done) | (simp; omega)) (by simp [go_sem, l0_10, l1_10, l2_10, l3_10, l4_10, l5_10, l6_10, c1_0_10])
  have c1_1_11 : w11.cell? ⟨w.heap.size + 1, 1, none⟩ = some (.int .i64 0) := hB11.keep (by first | (simp; done) | (simp; omega)) (by simp [go_sem, l0_10, l1_10, l2_10, l3_10, l4_10, l5_10, l6_10, c1_1_10])
  have c2_0_11 : w11.cell? ⟨w2.heap.size, 0, none⟩ = some (.bool false) := hB11.keep (by first | (simp; done) | (simp; omega)) (by simp [go_sem, l0_10, l1_10, l2_10, l3_10, l4_10, l5_10, l6_10, c2_0_10])
  have c2_1_11 : w11.cell? ⟨w2.heap.size, 1, none⟩ = some (.int .i64 (av + 0)) := hB11.keep (by first | (simp; done) | (simp; omega)) (by simp [go_sem, l0_10, l1_10, l2_10, l3_10, l4_10, l5_10, l6_10, c2_1_10])
  have c3_0_11 : w11.cell? ⟨w3.heap.size, 0, none⟩ = some (.bool false) := hB11.keep (by first | (simp; done) | (simp; omega)) (by simp [go_sem, l0_10, l1_10, l2_10, l3_10, l4_10, l5_10, l6_10, c3_0_10])
  have c3_1_11 : w11.cell? ⟨w3.heap.size, 1, none⟩ = some (.int .i64 (av + 0)) := hB11.keep (by first | (simp; done) | (simp; omega)) (by simp [go_sem, l0_10, l1_10, l2_10, l3_10, l4_10, l5_10, l6_10, c3_1_10])
  have c4_0_11 : w11.cell? ⟨w4.heap.size, 0, none⟩ = some (.bool r1) := hB11.keep (by first | (simp; done) | (simp; omega)) (by simp [go_sem, l0_10, l1_10, l2_10, l3_10, l4_10, l5_10, l6_10, c4_0_10])
  have c4_1_11 : w11.cell? ⟨w4.heap.size, 1, none⟩ = some (.int .i64 s1) := hB11.keep (by first | (simp; done) | (simp; omega)) (by simp [go_sem, l0_10, l1_10, l2_10, l3_10, l4_10, l5_10, l6_10, c4_1_10])
  have c5_0_11 : w11.cell? ⟨w5.heap.size, 0, none⟩ = some (.bool r1) := hB11.keep (by first | (simp; done) | (simp; omega)) (by simp [go_sem, l0_10, l1_10, l2_10, l3_10, l4_10, l5_10, l6_10, c5_0_10])
  have c5_1_11 : w11.cell? ⟨w5.heap.size, 1, none⟩ = some (.int .i64 s1) := hB11.keep (by first | (simp; done) | (simp; omega)) (by simp [go_sem, l0_10, l1_10, l2_10, l3_10, l4_10, l5_10, l6_10, c5_1_10])
  have c6_0_11 : w11.cell? ⟨w9.heap.size, 0, none⟩ = some (.bool false) := hB11.keep (by first | (simp; done) | (simp; omega)) (by simp [go_sem, l0_10, l1_10, l2_10, l3_10, l4_10, l5_10, l6_10, c6_0_10])
  have c6_1_11 : w11.cell? ⟨w9.heap.size, 1, none⟩ = some (.int .i64 av) := hB11.keep (by first | (simp; done) | (simp; omega)) (by simp [go_sem, l0_10, l1_10, l2_10, l3_10, l4_10, l5_10, l6_10, c6_1_10])
  have c7_0_11 : w11.cell? ⟨w10.heap.size, 0, none⟩ = some (.bool false) := hB11.keep (by first | (simp; done) | (simp; omega)) (by simp [go_sem, l0_10, l1_10, l2_10, l3_10, l4_10, l5_10, l6_10])
  have c7_1_11 : w11.cell? ⟨w10.heap.size, 1, none⟩ = some (.int .i64 0) := hB11.keep (by first | (simp; done) | (simp; omega)) (by simp [go_sem, l0_10, l1_10, l2_10, l3_10, l4_10, l5_10, l6_10])
  clear c0_0_10 c0_1_10 c1_0_10 c1_1_10 c2_0_10 c2_1_10 c3_0_10 c3_1_10 c4_0_10 c4_1_10 c5_0_10 c5_1_10 c6_0_10 c6_1_10 l0_10 l1_10 l2_10 l3_10 l4_10 l5_10 l6_10
  go_wp2_with fail
  go_ret
  refine ⟨rfl, ?_⟩
  repeat (first | exact Ext.refl _ | refine Ext.set ?_ (by dsimp only; omega) _ | refine Ext.alloc ?_ _ | refine Ext.drew ?_ | refine (Ext.trans ?_ (by assumption)))
set_option maxHeartbeats 8000000 in
theorem rules_fit_rest (av bv : Int) (w : World) (G : Glob w) (ha : oddB false av = false) (hb : oddB false bv = false) (hf : oddB false (av + bv) = false) (hz : bv ≠ 0) (hm : av.tmod bv ≠ 0) :
    Calls Tryd.prog 8 #[.agg #[.bool false, .int .i64 av], .agg #[.bool false, .int .i64 bv]] w fun e w' => e = .returned (.bool true) ∧ Ext w w' := by
  have hF : fitS (av + bv) = ((false, av + bv), 0) := by
    obtain ⟨_, a1, a2⟩ := oddB_false hf
    exact fitS_in a1 a2
  obtain ⟨⟨⟨r1, s1⟩, t1⟩, er1⟩ : ∃ r, mulS av bv = r := ⟨_, rfl⟩
  have E0 : Hid (two false false av bv (fitS (av + bv)) = ((false, av + bv), 0)) := by refine Lib.hid ?_; rw [both_ok _ _ _ ha hb, hF]
  have E1 : Hid (two false false bv av (fitS (bv + av)) = ((false, av + bv), 0)) := by refine Lib.hid ?_; rw [both_ok _ _ _ hb ha, Int.add_comm, hF]
  have E2 : Hid (two false false av bv (mulS av bv) = ((r1, s1), t1)) := by refine Lib.hid ?_; rw [both_ok _ _ _ ha hb, er1]
  have E3 : Hid (two false false bv av (mulS bv av) = ((r1, s1), t1)) := by refine Lib.hid ?_; rw [both_ok _ _ _ hb ha, mulS_turn, er1]
  have E4 : Hid (two false false (av + bv) bv (fitS (av + bv - bv)) = ((false, av), 0)) := by
    refine Lib.hid ?_
    obtain ⟨_, a1, a2⟩ := oddB_false ha
    rw [both_ok _ _ _ hf hb, show av + bv - bv = av by omega, fitS_in a1 a2]
  have E5 : Hid (two false false av bv (modS av bv) = ((false, av.tmod bv), 0)) := by refine Lib.hid ?_; rw [both_ok _ _ _ ha hb, modS, if_neg hz]
  have hq := quo_back av bv (by obtain ⟨_, a1, a2⟩ := oddB_false ha; omega)
  have hm' : (av.tmod bv == 0) = false := by simpa using hm
  have hsg : decide (av.tmod bv < 0) = decide (av < 0) := by
    by_cases hn : 0 ≤ av
    · have := Int.tmod_nonneg bv hn
      rw [decide_eq_false (by omega), decide_eq_false (by omega)]
    · have h1 := Int.neg_tmod av bv
      have := Int.tmod_nonneg bv (show 0 ≤ -av by omega)
      rw [decide_eq_true (by omega), decide_eq_true (by omega)]
  have HA := Lib.hid ha
  have HB := Lib.hid hb
  clear er1 hF ha hb hf
  go_enter Tryd.func8, Tryd.ntmps8
  go_wp2_with fail
  refine (awake3 _ ((G.alloc _).alloc _)).mono ?_
  rintro e w1 ⟨rfl, hB1⟩
  have hz1 := hB1.size
  simp at hz1
  have l0_1 : w.heap.size < w1.heap.size := by omega
  have l1_1 : w.heap.size + 1 < w1.heap.size := by omega
  have c0_0_1 : w1.cell? ⟨w.heap.size, 0, none⟩ = some (.bool false) := hB1.keep (by first | (simp; done) | (simp; omega)) (by simp [go_sem])
  have c0_1_1 : w1.cell? ⟨w.heap.size, 1, none⟩ = some (.int .i64 av) := hB1.keep (by first | (simp; done) | (simp; omega)) (by simp [go_sem])
  have c1_0_1 : w1.cell? ⟨w.heap.size + 1, 0, none⟩ = some (.bool false) := hB1.keep (by first | (simp; done) | (simp; omega)) (by simp [go_sem])
  have c1_1_1 : w1.cell? ⟨w.heap.size + 1, 1, none⟩ = some (.int .i64 bv) := hB1.keep (by first | (simp; done) | (simp; omega)) (by simp [go_sem])
  go_wp2_with fail
  refine (add_any false false av bv _).mono ?_
  rw [E0.out]
  rintro e w2 ⟨rfl, hB2⟩
  have hz2 := hB2.size
  have l0_2 : w.heap.size < w2.heap.size := by omega
  have l1_2 : w.heap.size + 1 < w2.heap.size := by omega
  have c0_0_2 : w2.cell? ⟨w.heap.size, 0, none⟩ = some (.bool false) := hB2.keep (by omega) c0_0_1
  have c0_1_2 : w2.cell? ⟨w.heap.size, 1, none⟩ = some (.int .i64 av) := hB2.keep (by omega) c0_1_1
  have c1_0_2 : w2.cell? ⟨w.heap.size + 1, 0, none⟩ = some (.bool false) := hB2.keep (by omega) c1_0_1
  have c1_1_2 : w2.cell? ⟨w.heap.size + 1, 1, none⟩ = some (.int .i64 bv) := hB2.keep (by omega) c1_1_1
  clear c0_0_1 c0_1_1 c1_0_1 c1_1_1 l0_1 l1_1
  go_wp2_with fail
  refine (add_any false false bv av _).mono ?_
  rw [E1.out]
  rintro e w3 ⟨rfl, hB3⟩
  have hz3 := hB3.size
  simp at hz3
  have l0_3 : w.heap.size < w3.heap.size := by omega
  have l1_3 : w.heap.size + 1 < w3.heap.size := by omega
  have l2_3 : w2.heap.size < w3.heap.size := by omega
  have c0_0_3 : w3.cell? ⟨w.heap.size, 0, none⟩ = some (.bool false) := hB3.keep (by first | (simp; done) | (simp; omega)) (by simp [go_sem, l0_2, l1_2, c0_0_2])
  have c0_1_3 : w3.cell? ⟨w.heap.size, 1, none⟩ = some (.int .i64 av) := hB3.keep (by first | (simp; done) | (simp; omega)) (by simp [go_sem, l0_2, l1_2, c0_1_2])
  have c1_0_3 : w3.cell? ⟨w.heap.size + 1, 0, none⟩ = some (.bool false) := hB3.keep (by first | (simp; done) | (simp; omega)) (by simp [go_sem, l0_2, l1_2, c1_0_2])
  have c1_1_3 : w3.cell? ⟨w.heap.size + 1, 1, none⟩ = some (.int .i64 bv) := hB3.keep (by first | (simp; done) | (simp; omega)) (by simp [go_sem, l0_2, l1_2, c1_1_2])
  have c2_0_3 : w3.cell? ⟨w2.heap.size, 0, none⟩ = some (.bool false) := hB3.keep (by first | (simp; done) | (simp; omega)) (by simp [go_sem, l0_2, l1_2])
  have c2_1_3 : w3.cell? ⟨w2.heap.size, 1, none⟩ = some (.int .i64 (av + bv)) := hB3.keep (by first | (simp; done) | (simp; omega)) (by simp [go_sem, l0_2, l1_2])
  clear c0_0_2 c0_1_2 c1_0_2 c1_1_2 l0_2 l1_2
  go_wp2_with fail
  refine (mul_any false false av bv _).mono ?_
  rw [E2.out]
  rintro e w4 ⟨rfl, hB4⟩
  have hz4 := hB4.size
  simp at hz4
  have l0_4 : w.heap.size < w4.heap.size := by omega
  have l1_4 : w.heap.size + 1 < w4.heap.size := by omega
  have l2_4 : w2.heap.size < w4.heap.size := by omega
  have l3_4 : w3.heap.size < w4.heap.size := by omega
  have c0_0_4 : w4.cell? ⟨w.heap.size, 0, none⟩ = some (.bool false) := hB4.keep (by first | (simp; done) | (simp; omega)) (by simp [go_sem, l0_3, l1_3, l2_3, c0_0_3])
  have c0_1_4 : w4.cell? ⟨w.heap.size, 1, none⟩ = some (.int .i64 av) := hB4.keep (by first | (simp; done) | (simp; omega)) (by simp [go_sem, l0_3, l1_3, l2_3, c0_1_3])
  have c1_0_4 : w4.cell? ⟨w.heap.size + 1, 0, none⟩ = some (.bool false) := hB4.keep (by first | (simp; done) | (simp; omega)) (by simp [go_sem, l0_3, l1_3, l2_3, c1_0_3])
  have c1_1_4 : w4.cell? ⟨w.heap.size + 1, 1, none⟩ = some (.int .i64 bv) := hB4.keep (by first | (simp; done) | (simp; omega)) (by simp [go_sem, l0_3, l1_3, l2_3, c1_1_3])
  have c2_0_4 : w4.cell? ⟨w2.heap.size, 0, none⟩ = some (.bool false) := hB4.keep (by first | (simp; done) | (simp; omega)) (by simp [go_sem, l0_3, l1_3, l2_3, c2_0_3])
  have c2_1_4 : w4.cell? ⟨w2.heap.size, 1, none⟩ = some (.int .i64 (av + bv)) := hB4.keep (by first | (simp; done) | (simp; omega)) (by simp [go_sem, l0_3, l1_3, l2_3, c2_1_3])
  have c3_0_4 : w4.cell? ⟨w3.heap.size, 0, none⟩ = some (.bool false) := hB4.keep (by first | (simp; done) | (simp; omega)) (by simp [go_sem, l0_3, l1_3, l2_3])
  have c3_1_4 : w4.cell? ⟨w3.heap.size, 1, none⟩ = some (.int .i64 (av + bv)) := hB4.keep (by first | (simp; done) | (simp; omega)) (by simp [go_sem, l0_3, l1_3, l2_3])
  clear c0_0_3 c0_1_3 c1_0_3 c1_1_3 c2_0_3 c2_1_3 l0_3 l1_3 l2_3
  go_wp2_with fail
  refine (mul_any false false bv av _).mono ?_
  rw [E3.out]
  rintro e w5 ⟨rfl, hB5⟩
  have hz5 := hB5.size
  simp at hz5
  have l0_5 : w.heap.size < w5.heap.size := by omega
  have l1_5 : w.heap.size + 1 < w5.heap.size := by omega
  have l2_5 : w2.heap.size < w5.heap.size := by omega
  have l3_5 : w3.heap.size < w5.heap.size := by omega
  have l4_5 : w4.heap.size < w5.heap.size := by omega
  have c0_0_5 : w5.cell? ⟨w.heap.size, 0, none⟩ = some (.bool false) := hB5.keep (by first | (simp; done) | (simp; omega)) (by simp [go_sem, l0_4, l1_4, l2_4, l3_4, c0_0_4])
  have c0_1_5 : w5.cell? ⟨w.heap.size, 1, none⟩ = some (.int .i64 av) := hB5.keep (by first | (simp; done) | (simp; omega)) (by simp [go_sem, l0_4, l1_4, l2_4, l3_4, c0_1_4])
  have c1_0_5 : w5.cell? ⟨w.heap.size + 1, 0, none⟩ = some (.bool false) := hB5.keep (by first | (simp; done) | (simp; omega)) (by simp [go_sem, l0_4, l1_4, l2_4, l3_4, c1_0_4])
  have c1_1_5 : w5.cell? ⟨w.heap.size + 1, 1, none⟩ = some (.int .i64 bv) := hB5.keep (by first | (simp; done) | (simp; omega)) (by simp [go_sem, l0_4, l1_4, l2_4, l3_4, c1_1_4])
  have c2_0_5 : w5.cell? ⟨w2.heap.size, 0, none⟩ = some (.bool false) := hB5.keep (by first | (simp; done) | (simp; omega)) (by simp [go_sem, l0_4, l1_4, l2_4, l3_4, c2_0_4])
  have c2_1_5 : w5.cell? ⟨w2.heap.size, 1, none⟩ = some (.int .i64 (av + bv)) := hB5.keep (by first | (simp; done) | (simp; omega)) (by simp [go_sem, l0_4, l1_4, l2_4, l3_4, c2_1_4])
  have c3_0_5 : w5.cell? ⟨w3.heap.size, 0, none⟩ = some (.bool false) := hB5.keep (by first | (simp; done) | (simp; omega)) (by simp [go_sem, l0_4, l1_4, l2_4, l3_4, c3_0_4])
  have c3_1_5 : w5.cell? ⟨w3.heap.size, 1, none⟩ = some (.int .i64 (av + bv)) := hB5.keep (by first | (simp; done) | (simp; omega)) (by simp [go_sem, l0_4, l1_4, l2_4, l3_4, c3_1_4])
  have c4_0_5 : w5.cell? ⟨w4.heap.size, 0, none⟩ = some (.bool r1) := hB5.keep (by first | (simp; done) | (simp; omega)) (by simp [go_sem, l0_4, l1_4, l2_4, l3_4])
  have c4_1_5 : w5.cell? ⟨w4.heap.size, 1, none⟩ = some (.int .i64 s1) := hB5.keep (by first | (simp; done) | (simp; omega)) (by simp [go_sem, l0_4, l1_4, l2_4, l3_4])
  clear c0_0_4 c0_1_4 c1_0_4 c1_1_4 c2_0_4 c2_1_4 c3_0_4 c3_1_4 l0_4 l1_4 l2_4 l3_4
  go_wp2_with fail
  obtain ⟨w6, hW6⟩ : ∃ wz, (w5.alloc (.cells #[.bool r1, .int .i64 s1] 38)) = wz := ⟨_, rfl⟩
  rw [hW6]
  have hB6 : Ext (w5.alloc (.cells #[.bool r1, .int .i64 s1] 38)) w6 := by rw [hW6]; exact Ext.refl _
  clear hW6
  have hz6 := hB6.size
  simp at hz6
  have l0_6 : w.heap.size < w6.heap.size := by omega
  have l1_6 : w.heap.size + 1 < w6.heap.size := by omega
  have l2_6 : w2.heap.size < w6.heap.size := by omega
  have l3_6 : w3.heap.size < w6.heap.size := by omega
  have l4_6 : w4.heap.size < w6.heap.size := by omega
  have l5_6 : w5.heap.size < w6.heap.size := by omega
  have c0_0_6 : w6.cell? ⟨w.heap.size, 0, none⟩ = some (.bool false) := hB6.keep (by first | (simp; done) | (simp; omega)) (by simp [go_sem, l0_5, l1_5, l2_5, l3_5, l4_5, c0_0_5])
  have c0_1_6 : w6.cell? ⟨w.heap.size, 1, none⟩ = some (.int .i64 av) := hB6.keep (by first | (simp; done) | (simp; omega)) (by simp [go_sem, l0_5, l1_5, l2_5, l3_5, l4_5, c0_1_5])
  have c1_0_6 : w6.cell? ⟨w.heap.size + 1, 0, none⟩ = some (.bool false) := hB6.keep (by first | (simp; done) | (simp; omega)) (by simp [go_sem, l0_5, l1_5, l2_5, l3_5, l4_5, c1_0_5])
  have c1_1_6 : w6.cell? ⟨w.heap.size + 1, 1, none⟩ = some (.int .i64 bv) := hB6.keep (by first | (simp; done) | (simp; omega)) (by simp [go_sem, l0_5, l1_5, l2_5, l3_5, l4_5, c1_1_5])
  have c2_0_6 : w6.cell? ⟨w2.heap.size, 0, none⟩ = some (.bool false) := hB6.keep (by first | (simp; done) | (simp; omega)) (by simp [go_sem, l0_5, l1_5, l2_5, l3_5, l4_5, c2_0_5])
  have c2_1_6 : w6.cell? ⟨w2.heap.size, 1, none⟩ = some (.int .i64 (av + bv)) := hB6.keep (by first | (simp; done) | (simp; omega)) (by simp [go_sem, l0_5, l1_5, l2_5, l3_5, l4_5, c2_1_5])
  have c3_0_6 : w6.cell? ⟨w3.heap.size, 0, none⟩ = some (.bool false) := hB6.keep (by first | (simp; done) | (simp; omega)) (by simp [go_sem, l0_5, l1_5, l2_5, l3_5, l4_5, c3_0_5])
  have c3_1_6 : w6.cell? ⟨w3.heap.size, 1, none⟩ = some (.int .i64 (av + bv)) := hB6.keep (by first | (simp; done) | (simp; omega)) (by simp [go_sem, l0_5, l1_5, l2_5, l3_5, l4_5, c3_1_5])
  have c4_0_6 : w6.cell? ⟨w4.heap.size, 0, none⟩ = some (.bool r1) := hB6.keep (by first | (simp; done) | (simp; omega)) (by simp [go_sem, l0_5, l1_5, l2_5, l3_5, l4_5, c4_0_5])
  have c4_1_6 : w6.cell? ⟨w4.heap.size, 1, none⟩ = some (.int .i64 s1) := hB6.keep (by first | (simp; done) | (simp; omega)) (by simp [go_sem, l0_5, l1_5, l2_5, l3_5, l4_5, c4_1_5])
  have c5_0_6 : w6.cell? ⟨w5.heap.size, 0, none⟩ = some (.bool r1) := hB6.keep (by first | (simp; done) | (simp; omega)) (by simp [go_sem, l0_5, l1_5, l2_5, l3_5, l4_5])
  have c5_1_6 : w6.cell? ⟨w5.heap.size, 1, none⟩ = some (.int .i64 s1) := hB6.keep (by first | (simp; done) | (simp; omega)) (by simp [go_sem, l0_5, l1_5, l2_5, l3_5, l4_5])
  clear c0_0_5 c0_1_5 c1_0_5 c1_1_5 c2_0_5 c2_1_5 c3_0_5 c3_1_5 c4_0_5 c4_1_5 l0_5 l1_5 l2_5 l3_5 l4_5
  go_wp2_with fail
  refine (rodd_any false av _).mono ?_
  rw [HA.out]
  rintro e w7 ⟨rfl, hB7⟩
  have hz7 := hB7.size
  have l0_7 : w.heap.size < w7.heap.size := by omega
  have l1_7 : w.heap.size + 1 < w7.heap.size := by omega
  have l2_7 : w2.heap.size < w7.heap.size := by omega
  have l3_7 : w3.heap.size < w7.heap.size := by omega
  have l4_7 : w4.heap.size < w7.heap.size := by omega
  have l5_7 : w5.heap.size < w7.heap.size := by omega
  have c0_0_7 : w7.cell? ⟨w.heap.size, 0, none⟩ = some (.bool false) := hB7.keep (by omega) c0_0_6
  have c0_1_7 : w7.cell? ⟨w.heap.size, 1, none⟩ = some (.int .i64 av) := hB7.keep (by omega) c0_1_6
  have c1_0_7 : w7.cell? ⟨w.heap.size + 1, 0, none⟩ = some (.bool false) := hB7.keep (by omega) c1_0_6
  have c1_1_7 : w7.cell? ⟨w.heap.size + 1, 1, none⟩ = some (.int .i64 bv) := hB7.keep (by omega) c1_1_6
  have c2_0_7 : w7.cell? ⟨w2.heap.size, 0, none⟩ = some (.bool false) := hB7.keep (by omega) c2_0_6
  have c2_1_7 : w7.cell? ⟨w2.heap.size, 1, none⟩ = some (.int .i64 (av + bv)) := hB7.keep (by omega) c2_1_6
  have c3_0_7 : w7.cell? ⟨w3.heap.size, 0, none⟩ = some (.bool false) := hB7.keep (by omega) c3_0_6
  have c3_1_7 : w7.cell? ⟨w3.heap.size, 1, none⟩ = some (.int .i64 (av + bv)) := hB7.keep (by omega) c3_1_6
  have c4_0_7 : w7.cell? ⟨w4.heap.size, 0, none⟩ = some (.bool r1) := hB7.keep (by omega) c4_0_6
  have c4_1_7 : w7.cell? ⟨w4.heap.size, 1, none⟩ = some (.int .i64 s1) := hB7.keep (by omega) c4_1_6
  have c5_0_7 : w7.cell? ⟨w5.heap.size, 0, none⟩ = some (.bool r1) := hB7.keep (by omega) c5_0_6
  have c5_1_7 : w7.cell? ⟨w5.heap.size, 1, none⟩ = some (.int .i64 s1) := hB7.keep (by omega) c5_1_6
  clear c0_0_6 c0_1_6 c1_0_6 c1_1_6 c2_0_6 c2_1_6 c3_0_6 c3_1_6 c4_0_6 c4_1_6 c5_0_6 c5_1_6 l0_6 l1_6 l2_6 l3_6 l4_6 l5_6
  go_wp2_with fail
  refine (rodd_any false bv _).mono ?_
  rw [HB.out]
  rintro e w8 ⟨rfl, hB8⟩
  have hz8 := hB8.size
  have l0_8 : w.heap.size < w8.heap.size := by omega
  have l1_8 : w.heap.size + 1 < w8.heap.size := by omega
  have l2_8 : w2.heap.size < w8.heap.size := by omega
  have l3_8 : w3.heap.size < w8.heap.size := by omega
  have l4_8 : w4.heap.size < w8.heap.size := by omega
  have l5_8 : w5.heap.size < w8.heap.size := by omega
  have c0_0_8 : w8.cell? ⟨w.heap.size, 0, none⟩ = some (.bool false) := hB8.keep (by omega) c0_0_7
  have c0_1_8 : w8.cell? ⟨w.heap.size, 1, none⟩ = some (.int .i64 av) := hB8.keep (by omega) c0_1_7
  have c1_0_8 : w8.cell? ⟨w.heap.size + 1, 0, none⟩ = some (.bool false) := hB8.keep (by omega) c1_0_7
  have c1_1_8 : w8.cell? ⟨w.heap.size + 1, 1, none⟩ = some (.int .i64 bv) := hB8.keep (by omega) c1_1_7
  have c2_0_8 : w8.cell? ⟨w2.heap.size, 0, none⟩ = some (.bool false) := hB8.keep (by omega) c2_0_7
  have c2_1_8 : w8.cell? ⟨w2.heap.size, 1, none⟩ = some (.int .i64 (av + bv)) := hB8.keep (by omega) c2_1_7
  have c3_0_8 : w8.cell? ⟨w3.heap.size, 0, none⟩ = some (.bool false) := hB8.keep (by omega) c3_0_7
  have c3_1_8 : w8.cell? ⟨w3.heap.size, 1, none⟩ = some (.int .i64 (av + bv)) := hB8.keep (by omega) c3_1_7
  have c4_0_8 : w8.cell? ⟨w4.heap.size, 0, none⟩ = some (.bool r1) := hB8.keep (by omega) c4_0_7
  have c4_1_8 : w8.cell? ⟨w4.heap.size, 1, none⟩ = some (.int .i64 s1) := hB8.keep (by omega) c4_1_7
  have c5_0_8 : w8.cell? ⟨w5.heap.size, 0, none⟩ = some (.bool r1) := hB8.keep (by omega) c5_0_7
  have c5_1_8 : w8.cell? ⟨w5.heap.size, 1, none⟩ = some (.int .i64 s1) := hB8.keep (by omega) c5_1_7
  clear c0_0_7 c0_1_7 c1_0_7 c1_1_7 c2_0_7 c2_1_7 c3_0_7 c3_1_7 c4_0_7 c4_1_7 c5_0_7 c5_1_7 l0_7 l1_7 l2_7 l3_7 l4_7 l5_7
  go_wp2_with fail
  refine (sub_any false false (av + bv) bv _).mono ?_
  rw [E4.out]
  rintro e w9 ⟨rfl, hB9⟩
  have hz9 := hB9.size
  have l0_9 : w.heap.size < w9.heap.size := by omega
  have l1_9 : w.heap.size + 1 < w9.heap.size := by omega
  have l2_9 : w2.heap.size < w9.heap.size := by omega
  have l3_9 : w3.heap.size < w9.heap.size := by omega
  have l4_9 : w4.heap.size < w9.heap.size := by omega
  have l5_9 : w5.heap.size < w9.heap.size := by omega
  have c0_0_9 : w9.cell? ⟨w.heap.size, 0, none⟩ = some (.bool false) := hB9.keep (by omega) c0_0_8
  have c0_1_9 : w9.cell? ⟨w.heap.size, 1, none⟩ = some (.int .i64 av) := hB9.keep (by omega) c0_1_8
  have c1_0_9 : w9.cell? ⟨w.heap.size + 1, 0, none⟩ = some (.bool false) := hB9.keep (by omega) c1_0_8
  have c1_1_9 : w9.cell? ⟨w.heap.size + 1, 1, none⟩ = some (.int .i64 bv) := hB9.keep (by omega) c1_1_8
  have c2_0_9 : w9.cell? ⟨w2.heap.size, 0, none⟩ = some (.bool false) := hB9.keep (by omega) c2_0_8
  have c2_1_9 : w9.cell? ⟨w2.heap.size, 1, none⟩ = some (.int .i64 (av + bv)) := hB9.keep (by omega) c2_1_8
  have c3_0_9 : w9.cell? ⟨w3.heap.size, 0, none⟩ = some (.bool false) := hB9.keep (by omega) c3_0_8
  have c3_1_9 : w9.cell? ⟨w3.heap.size, 1, none⟩ = some (.int .i64 (av + bv)) := hB9.keep (by omega) c3_1_8
  have c4_0_9 : w9.cell? ⟨w4.heap.size, 0, none⟩ = some (.bool r1) := hB9.keep (by omega) c4_0_8
  have c4_1_9 : w9.cell? ⟨w4.heap.size, 1, none⟩ = some (.int .i64 s1) := hB9.keep (by omega) c4_1_8
  have c5_0_9 : w9.cell? ⟨w5.heap.size, 0, none⟩ = some (.bool r1) := hB9.keep (by omega) c5_0_8
  have c5_1_9 : w9.cell? ⟨w5.heap.size, 1, none⟩ = some (.int .i64 s1) := hB9.keep (by omega) c5_1_8
  clear c0_0_8 c0_1_8 c1_0_8 c1_1_8 c2_0_8 c2_1_8 c3_0_8 c3_1_8 c4_0_8 c4_1_8 c5_0_8 c5_1_8 l0_8 l1_8 l2_8 l3_8 l4_8 l5_8
  go_wp2_with fail
  refine (mod_any false false av bv _).mono ?_
  rw [E5.out]
  rintro e w10 ⟨rfl, hB10⟩
  have hz10 := hB10.size
  simp at hz10
  have l0_10 : w.heap.size < w10.heap.size := by omega
  have l1_10 : w.heap.size + 1 < w10.heap.size := by omega
  have l2_10 : w2.heap.size < w10.heap.size := by omega
  have l3_10 : w3.heap.size < w10.heap.size := by omega
  have l4_10 : w4.heap.size < w10.heap.size := by omega
  have l5_10 : w5.heap.size < w10.heap.size := by omega
  have l6_10 : w9.heap.size < w10.heap.size := by omega
  have c0_0_10 : w10.cell? ⟨w.heap.size, 0, none⟩ = some (.bool false) := hB10.keep (by first | (simp; done) | (simp; omega)) (by simp [go_sem, l0_9, l1_9, l2_9, l3_9, l4_9, l5_9, c0_0_9])
  have c0_1_10 : w10.cell? ⟨w.heap.size, 1, none⟩ = some (.int .i64 av) := hB10.keep (by first | (simp; done) | (simp; omega)) (by simp [go_sem, l0_9, l1_9, l2_9, l3_9, l4_9, l5_9, c0_1_9])
  have c1_0_10 : w10.cell? ⟨w.heap.size + 1, 0, none⟩ = some (.bool false) := hB10.keep (by first | (simp; done) | (simp; omega)) (by simp [go_sem, l0_9, l1_9, l2_9, l3_9, l4_9, l5_9, c1_0_9])
  have c1_1_10 : w10.cell? ⟨w.heap.size + 1, 1, none⟩ = some (.int .i64 bv) := hB10.keep (by first | (simp; done) | (simp; omega)) (by simp [go_sem, l0_9, l1_9, l2_9, l3_9, l4_9, l5_9, c1_1_9])
  have c2_0_10 : w10.cell? ⟨w2.heap.size, 0, none⟩ = some (.bool false) := hB10.keep (by first | (simp; done) | (simp; omega)) (by simp [go_sem, l0_9, l1_9, l2_9, l3_9, l4_9, l5_9, c2_0_9])
  have c2_1_10 : w10.cell? ⟨w2.heap.size, 1, none⟩ = some (.int .i64 (av + bv)) := hB10.keep (by first | (simp; done) | (simp; omega)) (by simp [go_sem, l0_9, l1_9, l2_9, l3_9, l4_9, l5_9, c2_1_9])
  have c3_0_10 : w10.cell? ⟨w3.heap.size, 0, none⟩ = some (.bool false) := hB10.keep (by first | (simp; done) | (simp; omega)) (by simp [go_sem, l0_9, l1_9, l2_9, l3_9, l4_9, l5_9, c3_0_9])
  have c3_1_10 : w10.cell? ⟨w3.heap.size, 1, none⟩ = some (.int .i64 (av + bv)) := hB10.keep (by first | (simp; done) | (simp; omega)) (by simp [go_sem, l0_9, l1_9, l2_9, l3_9, l4_9, l5_9, c3_1_9])
  have c4_0_10 : w10.cell? ⟨w4.heap.size, 0, none⟩ = some (.bool r1) := hB10.keep (by first | (simp; done) | (simp; omega)) (by simp [go_sem, l0_9, l1_9, l2_9, l3_9, l4_9, l5_9, c4_0_9])
  have c4_1_10 : w10.cell? ⟨w4.heap.size, 1, none⟩ = some (.int .i64 s1) := hB10.keep (by first | (simp; done) | (simp; omega)) (by simp [go_sem, l0_9, l1_9, l2_9, l3_9, l4_9, l5_9, c4_1_9])
  have c5_0_10 : w10.cell? ⟨w5.heap.size, 0, none⟩ = some (.bool r1) := hB10.keep (by first | (simp; done) | (simp; omega)) (by simp [go_sem, l0_9, l1_9, l2_9, l3_9, l4_9, l5_9, c5_0_9])
  have c5_1_10 : w10.cell? ⟨w5.heap.size, 1, none⟩ = some (.int .i64 s1) := hB10.keep (by first | (simp; done) | (simp; omega)) (by simp [go_sem, l0_9, l1_9, l2_9, l3_9, l4_9, l5_9, c5_1_9])
  have c6_0_10 : w10.cell? ⟨w9.heap.size, 0, none⟩ = some (.bool false) := hB10.keep (by first | (simp; done) | (simp; omega)) (by simp [go_sem, l0_9, l1_9, l2_9, l3_9, l4_9, l5_9])
  have c6_1_10 : w10.cell? ⟨w9.heap.size, 1, none⟩ = some (.int .i64 av) := hB10.keep (by first | (simp; done) | (simp; omega)) (by simp [go_sem, l0_9, l1_9, l2_9, l3_9, l4_9, l5_9])
  clear c0_0_9 c0_1_9 c1_0_9 c1_1_9 c2_0_9 c2_1_9 c3_0_9 c3_1_9 c4_0_9 c4_1_9 c5_0_9 c5_1_9 l0_9 l1_9 l2_9 l3_9 l4_9 l5_9
  go_wp2_with fail
  obtain ⟨w11, hW11⟩ : ∃ wz, (w10.alloc (.cells #[.bool false, .int .i64 (av.tmod bv)] 38)) = wz := ⟨_, rfl⟩
  rw [hW11]
  have hB11 : Ext (w10.alloc (.cells #[.bool false, .int .i64 (av.tmod bv)] 38)) w11 := by rw [hW11]; exact Ext.refl _
  clear hW11
  have hz11 := hB11.size
  simp at hz11
  have l0_11 : w.heap.size < w11.heap.size := by omega
  have l1_11 : w.heap.size + 1 < w11.heap.size := by omega
  have l2_11 : w2.heap.size < w11.heap.size := by omega
  have l3_11 : w3.heap.size < w11.heap.size := by omega
  have l4_11 : w4.heap.size < w11.heap.size := by omega
  have l5_11 : w5.heap.size < w11.heap.size := by omega
  have l6_11 : w9.heap.size < w11.heap.size := by omega
  have l7_11 : w10.heap.size < w11.heap.size := by omega
  have c0_0_11 : w11.cell? ⟨w.heap.size, 0, none⟩ = some (.bool false) := hB11.keep (by first | (simp; done) | (simp; omega)) (by simp [go_sem, l0_10, l1_10, l2_10, l3_10, l4_10, l5_10, l6_10, c0_0_10])
  have c0_1_11 : w11.cell? ⟨w.heap.size, 1, none⟩ = some (.int .i64 av) := hB11.keep (by first | (simp; done) | (simp; omega)) (by simp [go_sem, l0_10, l1_10, l2_10, l3_10, l4_10, l5_10, l6_10, c0_1_10])
  have c1_0_11 : w11.cell? ⟨w.heap.size + 1, 0, none⟩ = some (.bool false) := hB11.keep (by first | (simp; done) | (simp; omega)) (by simp [go_sem, l0_10, l1_10, l2_10, l3_10, l4_10, l5_10, l6_10, c1_0_10])
  have c1_1_11 : w11.cell? ⟨w.heap.size + 1, 1, none⟩ = some (.int .i64 bv) := hB11.keep (by first | (simp; done) | (simp; omega)) (by simp [go_sem, l0_10, l1_10, l2_10, l3_10, l4_10, l5_10, l6_10, c1_1_10])
  have c2_0_11 : w11.cell? ⟨w2.heap.size, 0, none⟩ = some (.bool false) := hB11.keep (by first | (simp; done) | (simp; omega)) (by simp [go_sem, l0_10, l1_10, l2_10, l3_10, l4_10, l5_10, l6_10, c2_0_10])
  have c2_1_11 : w11.cell? ⟨w2.heap.size, 1, none⟩ = some (.int .i64 (av + bv)) := hB11.keep (by first | (simp; done) | (simp; omega)) (by simp [go_sem, l0_10, l1_10, l2_10, l3_10, l4_10, l5_10, l6_10, c2_1_10])
  have c3_0_11 : w11.cell? ⟨w3.heap.size, 0, none⟩ = some (.bool false) := hB11.keep (by first | (simp; done) | (simp; omega)) (by simp [go_sem, l0_10, l1_10, l2_10, l3_10, l4_10, l5_10, l6_10, c3_0_10])
  have c3_1_11 : w11.cell? ⟨w3.heap.size, 1, none⟩ = some (.int .i64 (av + bv)) := hB11.keep (by first | (simp; done) | (simp; omega)) (by simp [go_sem, l0_10, l1_10, l2_10, l3_10, l4_10, l5_10, l6_10, c3_1_10])
  have c4_0_11 : w11.cell? ⟨w4.heap.size, 0, none⟩ = some (.bool r1) := hB11.keep (by first | (simp; done) | (simp; omega)) (by simp [go_sem, l0_10, l1_10, l2_10, l3_10, l4_10, l5_10, l6_10, c4_0_10])
  have c4_1_11 : w11.cell? ⟨w4.heap.size, 1, none⟩ = some (.int .i64 s1) := hB11.keep (by first | (simp; done) | (simp; omega)) (by simp [go_sem, l0_10, l1_10, l2_10, l3_10, l4_10, l5_10, l6_10, c4_1_10])
  have c5_0_11 : w11.cell? ⟨w5.heap.size, 0, none⟩ = some (.bool r1) := hB11.keep (by first | (simp; done) | (simp; omega)) (by simp [go_sem, l0_10, l1_10, l2_10, l3_10, l4_10, l5_10, l6_10, c5_0_10])
  have c5_1_11 : w11.cell? ⟨w5.heap.size, 1, none⟩ = some (.int .i64 s1) := hB11.keep (by first | (simp; done) | (simp; omega)) (by simp [go_sem, l0_10, l1_10, l2_10, l3_10, l4_10, l5_10, l6_10, c5_1_10])
  have c6_0_11 : w11.cell? ⟨w9.heap.size, 0, none⟩ = some (.bool false) := hB11.keep (by first | (simp; done) | (simp; omega)) (by simp [go_sem, l0_10, l1_10, l2_10, l3_10, l4_10, l5_10, l6_10, c6_0_10])
  have c6_1_11 : w11.cell? ⟨w9.heap.size, 1, none⟩ = some (.int .i64 av) := hB11.keep (by first | (simp; done) | (simp; omega)) (by simp [go_sem, l0_10, l1_10, l2_10, l3_10, l4_10, l5_10, l6_10, c6_1_10])
  have c7_0_11 : w11.cell? ⟨w10.heap.size, 0, none⟩ = some (.bool false) := hB11.keep (by first | (simp; done) | (simp; omega)) (by simp [go_sem, l0_10, l1_10, l2_10, l3_10, l4_10, l5_10, l6_10])
  have c7_1_11 : w11.cell? ⟨w10.heap.size, 1, none⟩ = some (.int .i64 (av.tmod bv)) := hB11.keep (by first | (simp; done) | (simp; omega)) (by simp [go_sem, l0_10, l1_10, l2_10, l3_10, l4_10, l5_10, l6_10])
  clear c0_0_10 c0_1_10 c1_0_10 c1_1_10 c2_0_10 c2_1_10 c3_0_10 c3_1_10 c4_0_10 c4_1_10 c5_0_10 c5_1_10 c6_0_10 c6_1_10 l0_10 l1_10 l2_10 l3_10 l4_10 l5_10 l6_10
  go_wp2_with fail
  go_quiet (fail)
  go_wp2_with fail
  go_ret
  refine ⟨by first | rfl | (rw [hsg]; simp), ?_⟩
  repeat (first | exact Ext.refl _ | refine Ext.set ?_ (by dsimp only; omega) _ | refine Ext.alloc ?_ _ | refine Ext.drew ?_ | refine Ext.drewN ?_ _ | refine (Ext.trans ?_ (by assumption)))
set_option maxHeartbeats 8000000 in
theorem rules_far_zero (av bv : Int) (w : World) (G : Glob w) (ha : oddB false av = false) (hb : oddB false bv = false) (hf : oddB false (av + bv) = true) (hz : bv = 0) :
    Calls Tryd.prog 8 #[.agg #[.bool false, .int .i64 av], .agg #[.bool false, .int .i64 bv]] w fun e w' => e = .returned (.bool true) ∧ Ext w w' := by
  have hF : fitS (av + bv) = ((false, 0), 66) := by
    simp [oddB] at hf; rw [fitS, if_pos hf]
  obtain ⟨⟨⟨r1, s1⟩, t1⟩, er1⟩ : ∃ r, mulS av bv = r := ⟨_, rfl⟩
  have E0 : Hid (two false false av bv (fitS (av + bv)) = ((false, 0), 66)) := by refine Lib.hid ?_; rw [both_ok _ _ _ ha hb, hF]
  have E1 : Hid (two false false bv av (fitS (bv + av)) = ((false, 0), 66)) := by refine Lib.hid ?_; rw [both_ok _ _ _ hb ha, Int.add_comm, hF]
  have E2 : Hid (two false false av bv (mulS av bv) = ((r1, s1), t1)) := by refine Lib.hid ?_; rw [both_ok _ _ _ ha hb, er1]
  have E3 : Hid (two false false bv av (mulS bv av) = ((r1, s1), t1)) := by refine Lib.hid ?_; rw [both_ok _ _ _ hb ha, mulS_turn, er1]
  have E5 : Hid (two false false av bv (modS av bv) = ((false, 0), 67)) := by refine Lib.hid ?_; rw [both_ok _ _ _ ha hb, modS, if_pos hz]
  have HZ := Lib.hid hz; clear hz
  have HA := Lib.hid ha
  have HB := Lib.hid hb
  clear er1 hF ha hb hf
  go_enter Tryd.func8, Tryd.ntmps8
  go_wp2_with fail
  refine (awake3 _ ((G.alloc _).alloc _)).mono ?_
  rintro e w1 ⟨rfl, hB1⟩
  have hz1 := hB1.size
  simp at hz1
  have l0_1 : w.heap.size < w1.heap.size := by omega
  have l1_1 : w.heap.size + 1 < w1.heap.size := by omega
  have c0_0_1 : w1.cell? ⟨w.heap.size, 0, none⟩ = some (.bool false) := hB1.keep (by first | (simp; done) | (simp; omega)) (by simp [go_sem])
  have c0_1_1 : w1.cell? ⟨w.heap.size, 1, none⟩ = some (.int .i64 av) := hB1.keep (by first | (simp; done) | (simp; omega)) (by simp [go_sem])
  have c1_0_1 : w1.cell? ⟨w.heap.size + 1, 0, none⟩ = some (.bool false) := hB1.keep (by first | (simp; done) | (simp; omega)) (by simp [go_sem])
  have c1_1_1 : w1.cell? ⟨w.heap.size + 1, 1, none⟩ = some (.int .i64 bv) := hB1.keep (by first | (simp; done) | (simp; omega)) (by simp [go_sem])
  go_wp2_with fail
  refine (add_any false false av bv _).mono ?_
  rw [E0.out]
  rintro e w2 ⟨rfl, hB2⟩
  have hz2 := hB2.size
  have l0_2 : w.heap.size < w2.heap.size := by omega
  have l1_2 : w.heap.size + 1 < w2.heap.size := by omega
  have c0_0_2 : w2.cell? ⟨w.heap.size, 0, none⟩ = some (.bool false) := hB2.keep (by omega) c0_0_1
  have c0_1_2 : w2.cell? ⟨w.heap.size, 1, none⟩ = some (.int .i64 av) := hB2.keep (by omega) c0_1_1
  have c1_0_2 : w2.cell? ⟨w.heap.size + 1, 0, none⟩ = some (.bool false) := hB2.keep (by omega) c1_0_1
  have c1_1_2 : w2.cell? ⟨w.heap.size + 1, 1, none⟩ = some (.int .i64 bv) := hB2.keep (by omega) c1_1_1
  clear c0_0_1 c0_1_1 c1_0_1 c1_1_1 l0_1 l1_1
  go_wp2_with fail
  refine (add_any false false bv av _).mono ?_
  rw [E1.out]
  rintro e w3 ⟨rfl, hB3⟩
  have hz3 := hB3.size
  simp at hz3
  have l0_3 : w.heap.size < w3.heap.size := by omega
  have l1_3 : w.heap.size + 1 < w3.heap.size := by omega
  have l2_3 : w2.heap.size < w3.heap.size := by omega
  have c0_0_3 : w3.cell? ⟨w.heap.size, 0, none⟩ = some (.bool false) := hB3.keep (by first | (simp; done) | (simp; omega)) (by simp [go_sem, l0_2, l1_2, c0_0_2])
  have c0_1_3 : w3.cell? ⟨w.heap.size, 1, none⟩ = some (.int .i64 av) := hB3.keep (by first | (simp; done) | (simp; omega)) (by simp [go_sem, l0_2, l1_2, c0_1_2])
  have c1_0_3 : w3.cell? ⟨w.heap.size + 1, 0, none⟩ = some (.bool false) := hB3.keep (by first | (simp; done) | (simp; omega)) (by simp [go_sem, l0_2, l1_2, c1_0_2])
  have c1_1_3 : w3.cell? ⟨w.heap.size + 1, 1, none⟩ = some (.int .i64 bv) := hB3.keep (by first | (simp; done) | (simp; omega)) (by simp [go_sem, l0_2, l1_2, c1_1_2])
  have c2_0_3 : w3.cell? ⟨w2.heap.size, 0, none⟩ = some (.bool false) := hB3.keep (by first | (simp; done) | (simp; omega)) (by simp [go_sem, l0_2, l1_2])
  have c2_1_3 : w3.cell? ⟨w2.heap.size, 1, none⟩ = some (.int .i64 0) := hB3.keep (by first | (simp; done) | (simp; omega)) (by simp [go_sem, l0_2, l1_2])
  clear c0_0_2 c0_1_2 c1_0_2 c1_1_2 l0_2 l1_2
  go_wp2_with fail
  refine (mul_any false false av bv _).mono ?_
  rw [E2.out]
  rintro e w4 ⟨rfl, hB4⟩
  have hz4 := hB4.size
  simp at hz4
  have l0_4 : w.heap.size < w4.heap.size := by omega
  have l1_4 : w.heap.size + 1 < w4.heap.size := by omega
  have l2_4 : w2.heap.size < w4.heap.size := by omega
  have l3_4 : w3.heap.size < w4.heap.size := by omega
  have c0_0_4 : w4.cell? ⟨w.heap.size, 0, none⟩ = some (.bool false) := hB4.keep (by first | (simp; done) | (simp; omega)) (by simp [go_sem, l0_3, l1_3, l2_3, c0_0_3])
  have c0_1_4 : w4.cell? ⟨w.heap.size, 1, none⟩ = some (.int .i64 av) := hB4.keep (by first | (simp; done) | (simp; omega)) (by simp [go_sem, l0_3, l1_3, l2_3, c0_1_3])
  have c1_0_4 : w4.cell? ⟨w.heap.size + 1, 0, none⟩ = some (.bool false) := hB4.keep (by first | (simp; done) | (simp; omega)) (by simp [go_sem, l0_3, l1_3, l2_3, c1_0_3])
  have c1_1_4 : w4.cell? ⟨w.heap.size + 1, 1, none⟩ = some (.int .i64 bv) := hB4.keep (by first | (simp; done) | (simp; omega)) (by simp [go_sem, l0_3, l1_3, l2_3, c1_1_3])
  have c2_0_4 : w4.cell? ⟨w2.heap.size, 0, none⟩ = some (.bool false) := hB4.keep (by first | (simp; done) | (simp; omega)) (by simp [go_sem, l0_3, l1_3, l2_3, c2_0_3])
  have c2_1_4 : w4.cell? ⟨w2.heap.size, 1, none⟩ = some (.int .i64 0) := hB4.keep (by first | (simp; done) | (simp; omega)) (by simp [go_sem, l0_3, l1_3, l2_3, c2_1_3])
  have c3_0_4 : w4.cell? ⟨w3.heap.size, 0, none⟩ = some (.bool false) := hB4.keep (by first | (simp; done) | (simp; omega)) (by simp [go_sem, l0_3, l1_3, l2_3])
  have c3_1_4 : w4.cell? ⟨w3.heap.size, 1, none⟩ = some (.int .i64 0) := hB4.keep (by first | (simp; done) | (simp; omega)) (by simp [go_sem, l0_3, l1_3, l2_3])
  clear c0_0_3 c0_1_3 c1_0_3 c1_1_3 c2_0_3 c2_1_3 l0_3 l1_3 l2_3
  go_wp2_with fail
  refine (mul_any false false bv av _).mono ?_
  rw [E3.out]
  rintro e w5 ⟨rfl, hB5⟩
  have hz5 := hB5.size
  simp at hz5
  have l0_5 : w.heap.size < w5.heap.size := by omega
  have l1_5 : w.heap.size + 1 < w5.heap.size := by omega
  have l2_5 : w2.heap.size < w5.heap.size := by omega
  have l3_5 : w3.heap.size < w5.heap.size := by omega
  have l4_5 : w4.heap.size < w5.heap.size := by omega
  have c0_0_5 : w5.cell? ⟨w.heap.size, 0, none⟩ = some (.bool false) := hB5.keep (by first | (simp; done) | (simp; omega)) (by simp [go_sem, l0_4, l1_4, l2_4, l3_4, c0_0_4])
  have c0_1_5 : w5.cell? ⟨w.heap.size, 1, none⟩ = some (.int .i64 av) := hB5.keep (by first | (simp; done) | (simp; omega)) (by simp [go_sem, l0_4, l1_4, l2_4, l3_4, c0_1_4])
  have c1_0_5 : w5.cell? ⟨w.heap.size + 1, 0, none⟩ = some (.bool false) := hB5.keep (by first | (simp; done) | (simp; omega)) (by simp [go_sem, l0_4, l1_4, l2_4, l3_4, c1_0_4])
  have c1_1_5 : w5.cell? ⟨w.heap.size + 1, 1, none⟩ = some (.int .i64 bv) := hB5.keep (by first | (simp; done) | (simp; omega)) (by simp [go_sem, l0_4, l1_4, l2_4, l3_4, c1_1_4])
  have c2_0_5 : w5.cell? ⟨w2.heap.size, 0, none⟩ = some (.bool false) := hB5.keep (by first | (simp; done) | (simp; omega)) (by simp [go_sem, l0_4, l1_4, l2_4, l3_4, c2_0_4])
  have c2_1_5 : w5.cell? ⟨w2.heap.size, 1, none⟩ = some (.int .i64 0) := hB5.keep (by first | (simp; done) | (simp; omega)) (by simp [go_sem, l0_4, l1_4, l2_4, l3_4, c2_1_4])
  have c3_0_5 : w5.cell? ⟨w3.heap.size, 0, none⟩ = some (.bool false) := hB5.keep (by first | (simp; done) | (simp; omega)) (by simp [go_sem, l0_4, l1_4, l2_4, l3_4, c3_0_4])
  have c3_1_5 : w5.cell? ⟨w3.heap.size, 1, none⟩ = some (.int .i64 0) := hB5.keep (by first | (simp; done) | (simp; omega)) (by simp [go_sem, l0_4, l1_4, l2_4, l3_4, c3_1_4])
  have c4_0_5 : w5.cell? ⟨w4.heap.size, 0, none⟩ = some (.bool r1) := hB5.keep (by first | (simp; done) | (simp; omega)) (by simp [go_sem, l0_4, l1_4, l2_4, l3_4])
  have c4_1_5 : w5.cell? ⟨w4.heap.size, 1, none⟩ = some (.int .i64 s1) := hB5.keep (by first | (simp; done) | (simp; omega)) (by simp [go_sem, l0_4, l1_4, l2_4, l3_4])
  clear c0_0_4 c0_1_4 c1_0_4 c1_1_4 c2_0_4 c2_1_4 c3_0_4 c3_1_4 l0_4 l1_4 l2_4 l3_4
  go_wp2_with fail
  obtain ⟨w6, hW6⟩ : ∃ wz, (w5.alloc (.cells #[.bool r1, .int .i64 s1] 38)) = wz := ⟨_, rfl⟩
  rw [hW6]
  have hB6 : Ext (w5.alloc (.cells #[.bool r1, .int .i64 s1] 38)) w6 := by rw [hW6]; exact Ext.refl _
  clear hW6
  have hz6 := hB6.size
  simp at hz6
  have l0_6 : w.heap.size < w6.heap.size := by omega
  have l1_6 : w.heap.size + 1 < w6.heap.size := by omega
  have l2_6 : w2.heap.size < w6.heap.size := by omega
  have l3_6 : w3.heap.size < w6.heap.size := by omega
  have l4_6 : w4.heap.size < w6.heap.size := by omega
  have l5_6 : w5.heap.size < w6.heap.size := by omega
  have c0_0_6 : w6.cell? ⟨w.heap.size, 0, none⟩ = some (.bool false) := hB6.keep (by first | (simp; done) | (simp; omega)) (by simp [go_sem, l0_5, l1_5, l2_5, l3_5, l4_5, c0_0_5])
  have c0_1_6 : w6.cell? ⟨w.heap.size, 1, none⟩ = some (.int .i64 av) := hB6.keep (by first | (simp; done) | (simp; omega)) (by simp [go_sem, l0_5, l1_5, l2_5, l3_5, l4_5, c0_1_5])
  have c1_0_6 : w6.cell? ⟨w.heap.size + 1, 0, none⟩ = some (.bool false) := hB6.keep (by first | (simp; done) | (simp; omega)) (by simp [go_sem, l0_5, l1_5, l2_5, l3_5, l4_5, c1_0_5])
  have c1_1_6 : w6.cell? ⟨w.heap.size + 1, 1, none⟩ = some (.int .i64 bv) := hB6.keep (by first | (simp; done) | (simp; omega)) (by simp [go_sem, l0_5, l1_5, l2_5, l3_5, l4_5, c1_1_5])
  have c2_0_6 : w6.cell? ⟨w2.heap.size, 0, none⟩ = some (.bool false) := hB6.keep (by first | (simp; done) | (simp; omega)) (by simp [go_sem, l0_5, l1_5, l2_5, l3_5, l4_5, c2_0_5])
  have c2_1_6 : w6.cell? ⟨w2.heap.size, 1, none⟩ = some (.int .i64 0) := hB6.keep (by first | (simp; done) | (simp; omega)) (by simp [go_sem, l0_5, l1_5, l2_5, l3_5, l4_5, c2_1_5])
  have c3_0_6 : w6.cell? ⟨w3.heap.size, 0, none⟩ = some (.bool false) := hB6.keep (by first | (simp; done) | (simp; omega)) (by simp [go_sem, l0_5, l1_5, l2_5, l3_5, l4_5, c3_0_5])
  have c3_1_6 : w6.cell? ⟨w3.heap.size, 1, none⟩ = some (.int .i64 0) := hB6.keep (by first | (simp; done) | (simp; omega)) (by simp [go_sem, l0_5, l1_5, l2_5, l3_5, l4_5, c3_1_5])
  have c4_0_6 : w6.cell? ⟨w4.heap.size, 0, none⟩ = some (.bool r1) := hB6.keep (by first | (simp; done) | (simp; omega)) (by simp [go_sem, l0_5, l1_5, l2_5, l3_5, l4_5, c4_0_5])
  have c4_1_6 : w6.cell? ⟨w4.heap.size, 1, none⟩ = some (.int .i64 s1) := hB6.keep (by first | (simp; done) | (simp; omega)) (by simp [go_sem, l0_5, l1_5, l2_5, l3_5, l4_5, c4_1_5])
  have c5_0_6 : w6.cell? ⟨w5.heap.size, 0, none⟩ = some (.bool r1) := hB6.keep (by first | (simp; done) | (simp; omega)) (by simp [go_sem, l0_5, l1_5, l2_5, l3_5, l4_5])
  have c5_1_6 : w6.cell? ⟨w5.heap.size, 1, none⟩ = some (.int .i64 s1) := hB6.keep (by first | (simp; done) | (simp; omega)) (by simp [go_sem, l0_5, l1_5, l2_5, l3_5, l4_5])
  clear c0_0_5 c0_1_5 c1_0_5 c1_1_5 c2_0_5 c2_1_5 c3_0_5 c3_1_5 c4_0_5 c4_1_5 l0_5 l1_5 l2_5 l3_5 l4_5
  go_wp2_with fail
  refine (rodd_any false av _).mono ?_
  rw [HA.out]
  rintro e w7 ⟨rfl, hB7⟩
  have hz7 := hB7.size
  have l0_7 : w.heap.size < w7.heap.size := by omega
  have l1_7 : w.heap.size + 1 < w7.heap.size := by omega
  have l2_7 : w2.heap.size < w7.heap.size := by omega
  have l3_7 : w3.heap.size < w7.heap.size := by omega
  have l4_7 : w4.heap.size < w7.heap.size := by omega
  have l5_7 : w5.heap.size < w7.heap.size := by omega
  have c0_0_7 : w7.cell? ⟨w.heap.size, 0, none⟩ = some (.bool false) := hB7.keep (by omega) c0_0_6
  have c0_1_7 : w7.cell? ⟨w.heap.size, 1, none⟩ = some (.int .i64 av) := hB7.keep (by omega) c0_1_6
  have c1_0_7 : w7.cell? ⟨w.heap.size + 1, 0, none⟩ = some (.bool false) := hB7.keep (by omega) c1_0_6
  have c1_1_7 : w7.cell? ⟨w.heap.size + 1, 1, none⟩ = some (.int .i64 bv) := hB7.keep (by omega) c1_1_6
  have c2_0_7 : w7.cell? ⟨w2.heap.size, 0, none⟩ = some (.bool false) := hB7.keep (by omega) c2_0_6
  have c2_1_7 : w7.cell? ⟨w2.heap.size, 1, none⟩ = some (.int .i64 0) := hB7.keep (by omega) c2_1_6
  have c3_0_7 : w7.cell? ⟨w3.heap.size, 0, none⟩ = some (.bool false) := hB7.keep (by omega) c3_0_6
  have c3_1_7 : w7.cell? ⟨w3.heap.size, 1, none⟩ = some (.int .i64 0) := hB7.keep (by omega) c3_1_6
  have c4_0_7 : w7.cell? ⟨w4.heap.size, 0, none⟩ = some (.bool r1) := hB7.keep (by omega) c4_0_6
  have c4_1_7 : w7.cell? ⟨w4.heap.size, 1, none⟩ = some (.int .i64 s1) := hB7.keep (by omega) c4_1_6
  have c5_0_7 : w7.cell? ⟨w5.heap.size, 0, none⟩ = some (.bool r1) := hB7.keep (by omega) c5_0_6
  have c5_1_7 : w7.cell? ⟨w5.heap.size, 1, none⟩ = some (.int .i64 s1) := hB7.keep (by omega) c5_1_6
  clear c0_0_6 c0_1_6 c1_0_6 c1_1_6 c2_0_6 c2_1_6 c3_0_6 c3_1_6 c4_0_6 c4_1_6 c5_0_6 c5_1_6 l0_6 l1_6 l2_6 l3_6 l4_6 l5_6
  go_wp2_with fail
  refine (rodd_any false bv _).mono ?_
  rw [HB.out]
  rintro e w8 ⟨rfl, hB8⟩
  have hz8 := hB8.size
  have l0_8 : w.heap.size < w8.heap.size := by omega
  have l1_8 : w.heap.size + 1 < w8.heap.size := by omega
  have l2_8 : w2.heap.size < w8.heap.size := by omega
  have l3_8 : w3.heap.size < w8.heap.size := by omega
  have l4_8 : w4.heap.size < w8.heap.size := by omega
  have l5_8 : w5.heap.size < w8.heap.size := by omega
  have c0_0_8 : w8.cell? ⟨w.heap.size, 0, none⟩ = some (.bool false) := hB8.keep (by omega) c0_0_7
  have c0_1_8 : w8.cell? ⟨w.heap.size, 1, none⟩ = some (.int .i64 av) := hB8.keep (by omega) c0_1_7
  have c1_0_8 : w8.cell? ⟨w.heap.size + 1, 0, none⟩ = some (.bool false) := hB8.keep (by omega) c1_0_7
  have c1_1_8 : w8.cell? ⟨w.heap.size + 1, 1, none⟩ = some (.int .i64 bv) := hB8.keep (by omega) c1_1_7
  have c2_0_8 : w8.cell? ⟨w2.heap.size, 0, none⟩ = some (.bool false) := hB8.keep (by omega) c2_0_7
  have c2_1_8 : w8.cell? ⟨w2.heap.size, 1, none⟩ = some (.int .i64 0) := hB8.keep (by omega) c2_1_7
  have c3_0_8 : w8.cell? ⟨w3.heap.size, 0, none⟩ = some (.bool false) := hB8.keep (by omega) c3_0_7
  have c3_1_8 : w8.cell? ⟨w3.heap.size, 1, none⟩ = some (.int .i64 0) := hB8.keep (by omega) c3_1_7
  have c4_0_8 : w8.cell? ⟨w4.heap.size, 0, none⟩ = some (.bool r1) := hB8.keep (by omega) c4_0_7
  have c4_1_8 : w8.cell? ⟨w4.heap.size, 1, none⟩ = some (.int .i64 s1) := hB8.keep (by omega) c4_1_7
  have c5_0_8 : w8.cell? ⟨w5.heap.size, 0, none⟩ = some (.bool r1) := hB8.keep (by omega) c5_0_7
  have c5_1_8 : w8.cell? ⟨w5.heap.size, 1, none⟩ = some (.int .i64 s1) := hB8.keep (by omega) c5_1_7
  clear c0_0_7 c0_1_7 c1_0_7 c1_1_7 c2_0_7 c2_1_7 c3_0_7 c3_1_7 c4_0_7 c4_1_7 c5_0_7 c5_1_7 l0_7 l1_7 l2_7 l3_7 l4_7 l5_7
  go_wp2_with fail
  refine (mod_any false false av bv _).mono ?_
  rw [E5.out]
  rintro e w9 ⟨rfl, hB9⟩
  have hz9 := hB9.size
  have l0_9 : w.heap.size < w9.heap.size := by omega
  have l1_9 : w.heap.size + 1 < w9.heap.size := by omega
  have l2_9 : w2.heap.size < w9.heap.size := by omega
  have l3_9 : w3.heap.size < w9.heap.size := by omega
  have l4_9 : w4.heap.size < w9.heap.size := by omega
  have l5_9 : w5.heap.size < w9.heap.size := by omega
  have c0_0_9 : w9.cell? ⟨w.heap.size, 0, none⟩ = some (.bool false) := hB9.keep (by omega) c0_0_8
  have c0_1_9 : w9.cell? ⟨w.heap.size, 1, none⟩ = some (.int .i64 av) := hB9.keep (by omega) c0_1_8
  have c1_0_9 : w9.cell? ⟨w.heap.size + 1, 0, none⟩ = some (.bool false) := hB9.keep (by omega) c1_0_8
  have c1_1_9 : w9.cell? ⟨w.heap.size + 1, 1, none⟩ = some (.int .i64 bv) := hB9.keep (by omega) c1_1_8
  have c2_0_9 : w9.cell? ⟨w2.heap.size, 0, none⟩ = some (.bool false) := hB9.keep (by omega) c2_0_8
  have c2_1_9 : w9.cell? ⟨w2.heap.size, 1, none⟩ = some (.int .i64 0) := hB9.keep (by omega) c2_1_8
  have c3_0_9 : w9.cell? ⟨w3.heap.size, 0, none⟩ = some (.bool false) := hB9.keep (by omega) c3_0_8
  have c3_1_9 : w9.cell? ⟨w3.heap.size, 1, none⟩ = some (.int .i64 0) := hB9.keep (by omega) c3_1_8
  have c4_0_9 : w9.cell? ⟨w4.heap.size, 0, none⟩ = some (.bool r1) := hB9.keep (by omega) c4_0_8
  have c4_1_9 : w9.cell? ⟨w4.heap.size, 1, none⟩ = some (.int .i64 s1) := hB9.keep (by omega) c4_1_8
  have c5_0_9 : w9.cell? ⟨w5.heap.size, 0, none⟩ = some (.bool r1) := hB9.keep (by omega) c5_0_8
  have c5_1_9 : w9.cell? ⟨w5.heap.size, 1, none⟩ = some (.int .i64 s1) := hB9.keep (by omega) c5_1_8
  clear c0_0_8 c0_1_8 c1_0_8 c1_1_8 c2_0_8 c2_1_8 c3_0_8 c3_1_8 c4_0_8 c4_1_8 c5_0_8 c5_1_8 l0_8 l1_8 l2_8 l3_8 l4_8 l5_8
  have hz := HZ.out
  clear HZ
  subst hz
  go_wp2_with fail
  obtain ⟨w10, hW10⟩ : ∃ wz, (w9.alloc (.cells #[.bool false, .int .i64 0] 38)) = wz := ⟨_, rfl⟩
  rw [hW10]
  have hB10 : Ext (w9.alloc (.cells #[.bool false, .int .i64 0] 38)) w10 := by rw [hW10]; exact Ext.refl _
  clear hW10
  have hz10 := hB10.size
  simp at hz10
  have l0_10 : w.heap.size < w10.heap.size := by omega
  have l1_10 : w.heap.size + 1 < w10.heap.size := by omega
  have l2_10 : w2.heap.size < w10.heap.size := by omega
  have l3_10 : w3.heap.size < w10.heap.size := by omega
  have l4_10 : w4.heap.size < w10.heap.size := by omega
  have l5_10 : w5.heap.size < w10.heap.size := by omega
  have l6_10 : w9.heap.size < w10.heap.size := by omega
  have c0_0_10 : w10.cell? ⟨w.heap.size, 0, none⟩ = some (.bool false) := hB10.keep (by first | (simp; done) | (simp; omega)) (by simp [go_sem, l0_9, l1_9, l2_9, l3_9, l4_9, l5_9, c0_0_9])
  have c0_1_10 : w10.cell? ⟨w.heap.size, 1, none⟩ = some (.int .i64 av) := hB10.keep (by first | (simp; done) | (simp; omega)) (by simp [go_sem, l0_9, l1_9, l2_9, l3_9, l4_9, l5_9, c0_1_9])
  have c1_0_10 : w10.cell? ⟨w.heap.size + 1, 0, none⟩ = some (.bool false) := hB10.keep (by first | (simp; done) | (simp; omega)) (by simp [go_sem, l0_9, l1_9, l2_9, l3_9, l4_9, l5_9, c1_0_9])
  have c1_1_10 : w10.cell? ⟨w.heap.size + 1, 1, none⟩ = some (.int .i64 0) := hB10.keep (by first | (simp; done) | (simp; omega)) (by simp [go_sem, l0_9, l1_9, l2_9, l3_9, l4_9, l5_9, c1_1_9])
  have c2_0_10 : w10.cell? ⟨w2.heap.size, 0, none⟩ = some (.bool false) := hB10.keep (by first | (simp; done) | (simp; omega)) (by simp [go_sem, l0_9, l1_9, l2_9, l3_9, l4_9, l5_9, c2_0_9])
  have c2_1_10 : w10.cell? ⟨w2.heap.size, 1, none⟩ = some (.int .i64 0) := hB10.keep (by first | (simp; done) | (simp; omega)) (by simp [go_sem, l0_9, l1_9, l2_9, l3_9, l4_9, l5_9, c2_1_9])
  have c3_0_10 : w10.cell? ⟨w3.heap.size, 0, none⟩ = some (.bool false) := hB10.keep (by first | (simp; done) | (simp; omega)) (by simp [go_sem, l0_9, l1_9, l2_9, l3_9, l4_9, l5_9, c3_0_9])
  have c3_1_10 : w10.cell? ⟨w3.heap.size, 1, none⟩ = some (.int .i64 0) := hB10.keep (by first | (simp; done) | (simp; omega)) (by simp [go_sem, l0_9, l1_9, l2_9, l3_9, l4_9, l5_9, c3_1_9])
  have c4_0_10 : w10.cell? ⟨w4.heap.size, 0, none⟩ = some (.bool r1) := hB10.keep (by first | (simp; done) | (simp; omega)) (by simp [go_sem, l0_9, l1_9, l2_9, l3_9, l4_9, l5_9, c4_0_9])
  have c4_1_10 : w10.cell? ⟨w4.heap.size, 1, none⟩ = some (.int .i64 s1) := hB10.keep (by first | (simp; done) | (simp; omega)) (by simp [go_sem, l0_9, l1_9, l2_9, l3_9, l4_9, l5_9, c4_1_9])
  have c5_0_10 : w10.cell? ⟨w5.heap.size, 0, none⟩ = some (.bool r1) := hB10.keep (by first | (simp; done) | (simp; omega)) (by simp [go_sem, l0_9, l1_9, l2_9, l3_9, l4_9, l5_9, c5_0_9])
  have c5_1_10 : w10.cell? ⟨w5.heap.size, 1, none⟩ = some (.int .i64 s1) := hB10.keep (by first | (simp; done) | (simp; omega)) (by simp [go_sem, l0_9, l1_9, l2_9, l3_9, l4_9, l5_9, c5_1_9])
  have c6_0_10 : w10.cell? ⟨w9.heap.size, 0, none⟩ = some (.bool false) := hB10.keep (by first | (simp; done) | (simp; omega)) (by simp [go_sem, l0_9, l1_9, l2_9, l3_9, l4_9, l5_9])
  have c6_1_10 : w10.cell? ⟨w9.heap.size, 1, none⟩ = some (.int .i64 0) := hB10.keep (by first | (simp; done) | (simp; omega)) (by simp [go_sem, l0_9, l1_9, l2_9, l3_9, l4_9, l5_9])
  clear c0_0_9 c0_1_9 c1_0_9 c1_1_9 c2_0_9 c2_1_9 c3_0_9 c3_1_9 c4_0_9 c4_1_9 c5_0_9 c5_1_9 l0_9 l1_9 l2_9 l3_9 l4_9 l5_9
  go_wp2_with fail
  go_ret
  refine ⟨rfl, ?_⟩
  repeat (first | exact Ext.refl _ | refine Ext.set ?_ (by dsimp only; omega) _ | refine Ext.alloc ?_ _ | refine Ext.drew ?_ | refine (Ext.trans ?_ (by assumption)))
set_option maxHeartbeats 8000000 in
theorem rules_far_rest (av bv : Int) (w : World) (G : Glob w) (ha : oddB false av = false) (hb : oddB false bv = false) (hf : oddB false (av + bv) = true) (hz : bv ≠ 0) (hm : av.tmod bv ≠ 0) :
    Calls Tryd.prog 8 #[.agg #[.bool false, .int .i64 av], .agg #[.bool false, .int .i64 bv]] w fun e w' => e = .returned (.bool true) ∧ Ext w w' := by
  have hF : fitS (av + bv) = ((false, 0), 66) := by
    simp [oddB] at hf; rw [fitS, if_pos hf]
  obtain ⟨⟨⟨r1, s1⟩, t1⟩, er1⟩ : ∃ r, mulS av bv = r := ⟨_, rfl⟩
  have E0 : Hid (two false false av bv (fitS (av + bv)) = ((false, 0), 66)) := by refine Lib.hid ?_; rw [both_ok _ _ _ ha hb, hF]
  have E1 : Hid (two false false bv av (fitS (bv + av)) = ((false, 0), 66)) := by refine Lib.hid ?_; rw [both_ok _ _ _ hb ha, Int.add_comm, hF]
  have E2 : Hid (two false false av bv (mulS av bv) = ((r1, s1), t1)) := by refine Lib.hid ?_; rw [both_ok _ _ _ ha hb, er1]
  have E3 : Hid (two false false bv av (mulS bv av) = ((r1, s1), t1)) := by refine Lib.hid ?_; rw [both_ok _ _ _ hb ha, mulS_turn, er1]
  have E5 : Hid (two false false av bv (modS av bv) = ((false, av.tmod bv), 0)) := by refine Lib.hid ?_; rw [both_ok _ _ _ ha hb, modS, if_neg hz]
  have hq := quo_back av bv (by obtain ⟨_, a1, a2⟩ := oddB_false ha; omega)
  have hm' : (av.tmod bv == 0) = false := by simpa using hm
  have hsg : decide (av.tmod bv < 0) = decide (av < 0) := by
    by_cases hn : 0 ≤ av
    · have := Int.tmod_nonneg bv hn
      rw [decide_eq_false (by omega), decide_eq_false (by omega)]
    · have h1 := Int.neg_tmod av bv
      have := Int.tmod_nonneg bv (show 0 ≤ -av by omega)
      rw [decide_eq_true (by omega), decide_eq_true (by omega)]
  have HA := Lib.hid ha
  have HB := Lib.hid hb
  clear er1 hF ha hb hf
  go_enter Tryd.func8, Tryd.ntmps8
  go_wp2_with fail
  refine (awake3 _ ((G.alloc _).alloc _)).mono ?_
  rintro e w1 ⟨rfl, hB1⟩
  have hz1 := hB1.size
  simp at hz1
  have l0_1 : w.heap.size < w1.heap.size := by omega
  have l1_1 : w.heap.size + 1 < w1.heap.size := by omega
  have c0_0_1 : w1.cell? ⟨w.heap.size, 0, none⟩ = some (.bool false) := hB1.keep (by first | (simp; done) | (simp; omega)) (by simp [go_sem])
  have c0_1_1 : w1.cell? ⟨w.heap.size, 1, none⟩ = some (.int .i64 av) := hB1.keep (by first | (simp; done) | (simp; omega)) (by simp [go_sem])
  have c1_0_1 : w1.cell? ⟨w.heap.size + 1, 0, none⟩ = some (.bool false) := hB1.keep (by first | (simp; done) | (simp; omega)) (by simp [go_sem])
  have c1_1_1 : w1.cell? ⟨w.heap.size + 1, 1, none⟩ = some (.int .i64 bv) := hB1.keep (by first | (simp; done) | (simp; omega)) (by simp [go_sem])
  go_wp2_with fail
  refine (add_any false false av bv _).mono ?_
  rw [E0.out]
  rintro e w2 ⟨rfl, hB2⟩
  have hz2 := hB2.size
  have l0_2 : w.heap.size < w2.heap.size := by omega
  have l1_2 : w.heap.size + 1 < w2.heap.size := by omega
  have c0_0_2 : w2.cell? ⟨w.heap.size, 0, none⟩ = some (.bool false) := hB2.keep (by omega) c0_0_1
  have c0_1_2 : w2.cell? ⟨w.heap.size, 1, none⟩ = some (.int .i64 av) := hB2.keep (by omega) c0_1_1
  have c1_0_2 : w2.cell? ⟨w.heap.size + 1, 0, none⟩ = some (.bool false) := hB2.keep (by omega) c1_0_1
  have c1_1_2 : w2.cell? ⟨w.heap.size + 1, 1, none⟩ = some (.int .i64 bv) := hB2.keep (by omega) c1_1_1
  clear c0_0_1 c0_1_1 c1_0_1 c1_1_1 l0_1 l1_1
  go_wp2_with fail
  refine (add_any false false bv av _).mono ?_
  rw [E1.out]
  rintro e w3 ⟨rfl, hB3⟩
  have hz3 := hB3.size
  simp at hz3
  have l0_3 : w.heap.size < w3.heap.size := by omega
  have l1_3 : w.heap.size + 1 < w3.heap.size := by omega
  have l2_3 : w2.heap.size < w3.heap.size := by omega
  have c0_0_3 : w3.cell? ⟨w.heap.size, 0, none⟩ = some (.bool false) := hB3.keep (by first | (simp; done) | (simp; omega)) (by simp [go_sem, l0_2, l1_2, c0_0_2])
  have c0_1_3 : w3.cell? ⟨w.heap.size, 1, none⟩ = some (.int .i64 av) := hB3.keep (by first | (simp; done) | (simp; omega)) (by simp [go_sem, l0_2, l1_2, c0_1_2])
  have c1_0_3 : w3.cell? ⟨w.heap.size + 1, 0, none⟩ = some (.bool false) := hB3.keep (by first | (simp; done) | (simp; omega)) (by simp [go_sem, l0_2, l1_2, c1_0_2])
  have c1_1_3 : w3.cell? ⟨w.heap.size + 1, 1, none⟩ = some (.int .i64 bv) := hB3.keep (by first | (simp; done) | (simp; omega)) (by simp [go_sem, l0_2, l1_2, c1_1_2])
  have c2_0_3 : w3.cell? ⟨w2.heap.size, 0, none⟩ = some (.bool false) := hB3.keep (by first | (simp; done) | (simp; omega)) (by simp [go_sem, l0_2, l1_2])
  have c2_1_3 : w3.cell? ⟨w2.heap.size, 1, none⟩ = some (.int .i64 0) := hB3.keep (by first | (simp; done) | (simp; omega)) (by simp [go_sem, l0_2, l1_2])
  clear c0_0_2 c0_1_2 c1_0_2 c1_1_2 l0_2 l1_2
  go_wp2_with fail
  refine (mul_any false false av bv _).mono ?_
  rw [E2.out]
  rintro e w4 ⟨rfl, hB4⟩
  have hz4 := hB4.size
  simp at hz4
  have l0_4 : w.heap.size < w4.heap.size := by omega
  have l1_4 : w.heap.size + 1 < w4.heap.size := by omega
  have l2_4 : w2.heap.size < w4.heap.size := by omega
  have l3_4 : w3.heap.size < w4.heap.size := by omega
  have c0_0_4 : w4.cell? ⟨w.heap.size, 0, none⟩ = some (.bool false) := hB4.keep (by first | (simp; done) | (simp; omega)) (by simp [go_sem, l0_3, l1_3, l2_3, c0_0_3])
  have c0_1_4 : w4.cell? ⟨w.heap.size, 1, none⟩ = some (.int .i64 av) := hB4.keep (by first | (simp; done) | (simp; omega)) (by simp [go_sem, l0_3, l1_3, l2_3, c0_1_3])
  have c1_0_4 : w4.cell? ⟨w.heap.size + 1, 0, none⟩ = some (.bool false) := hB4.keep (by first | (simp; done) | (simp; omega)) (by simp [go_sem, l0_3, l1_3, l2_3, c1_0_3])
  have c1_1_4 : w4.cell? ⟨w.heap.size + 1, 1, none⟩ = some (.int .i64 bv) := hB4.keep (by first | (simp; done) | (simp; omega)) (by simp [go_sem, l0_3, l1_3, l2_3, c1_1_3])
  have c2_0_4 : w4.cell? ⟨w2.heap.size, 0, none⟩ = some (.bool false) := hB4.keep (by first | (simp; done) | (simp; omega)) (by simp [go_sem, l0_3, l1_3, l2_3, c2_0_3])
  have c2_1_4 : w4.cell? ⟨w2.heap.size, 1, none⟩ = some (.int .i64 0) := hB4.keep (by first | (simp; done) | (simp; omega)) (by simp [go_sem, l0_3, l1_3, l2_3, c2_1_3])
  have c3_0_4 : w4.cell? ⟨w3.heap.size, 0, none⟩ = some (.bool false) := hB4.keep (by first | (simp; done) | (simp; omega)) (by simp [go_sem, l0_3, l1_3, l2_3])
  have c3_1_4 : w4.cell? ⟨w3.heap.size, 1, none⟩ = some (.int .i64 0) := hB4.keep (by first | (simp; done) | (simp; omega)) (by simp [go_sem, l0_3, l1_3, l2_3])
  clear c0_0_3 c0_1_3 c1_0_3 c1_1_3 c2_0_3 c2_1_3 l0_3 l1_3 l2_3
  go_wp2_with fail
  refine (mul_any false false bv av _).mono ?_
  rw [E3.out]
  rintro e w5 ⟨rfl, hB5⟩
  have hz5 := hB5.size
  simp at hz5
  have l0_5 : w.heap.size < w5.heap.size := by omega
  have l1_5 : w.heap.size + 1 < w5.heap.size := by omega
  have l2_5 : w2.heap.size < w5.heap.size := by omega
  have l3_5 : w3.heap.size < w5.heap.size := by omega
  have l4_5 : w4.heap.size < w5.heap.size := by omega
  have c0_0_5 : w5.cell? ⟨w.heap.size, 0, none⟩ = some (.bool false) := hB5.keep (by first | (simp; done) | (simp; omega)) (by simp [go_sem, l0_4, l1_4, l2_4, l3_4, c0_0_4])
  have c0_1_5 : w5.cell? ⟨w.heap.size, 1, none⟩ = some (.int .i64 av) := hB5.keep (by first | (simp; done) | (simp; omega)) (by simp [go_sem, l0_4, l1_4, l2_4, l3_4, c0_1_4])
  have c1_0_5 : w5.cell? ⟨w.heap.size + 1, 0, none⟩ = some (.bool false) := hB5.keep (by first | (simp; done) | (simp; omega)) (by simp [go_sem, l0_4, l1_4, l2_4, l3_4, c1_0_4])
  have c1_1_5 : w5.cell? ⟨w.heap.size + 1, 1, none⟩ = some (.int .i64 bv) := hB5.keep (by first | (simp; done) | (simp; omega)) (by simp [go_sem, l0_4, l1_4, l2_4, l3_4, c1_1_4])
  have c2_0_5 : w5.cell? ⟨w2.heap.size, 0, none⟩ = some (.bool false) := hB5.keep (by first | (simp; done) | (simp; omega)) (by simp [go_sem, l0_4, l1_4, l2_4, l3_4, c2_0_4])
  have c2_1_5 : w5.cell? ⟨w2.heap.size, 1, none⟩ = some (.int .i64 0) := hB5.keep (by first | (simp; done) | (simp; omega)) (by simp [go_sem, l0_4, l1_4, l2_4, l3_4, c2_1_4])
  have c3_0_5 : w5.cell? ⟨w3.heap.size, 0, none⟩ = some (.bool false) := hB5.keep (by first | (simp; done) | (simp; omega)) (by simp [go_sem, l0_4, l1_4, l2_4, l3_4, c3_0_4])
  have c3_1_5 : w5.cell? ⟨w3.heap.size, 1, none⟩ = some (.int .i64 0) := hB5.keep (by first | (simp; done) | (simp; omega)) (by simp [go_sem, l0_4, l1_4, l2_4, l3_4, c3_1_4])
  have c4_0_5 : w5.cell? ⟨w4.heap.size, 0, none⟩ = some (.bool r1) := hB5.keep (by first | (simp; done) | (simp; omega)) (by simp [go_sem, l0_4, l1_4, l2_4, l3_4])
  have c4_1_5 : w5.cell? ⟨w4.heap.size, 1, none⟩ = some (.int .i64 s1) := hB5.keep (by first | (simp; done) | (simp; omega)) (by simp [go_sem, l0_4, l1_4, l2_4, l3_4])
  clear c0_0_4 c0_1_4 c1_0_4 c1_1_4 c2_0_4 c2_1_4 c3_0_4 c3_1_4 l0_4 l1_4 l2_4 l3_4
  go_wp2_with fail
  obtain ⟨w6, hW6⟩ : ∃ wz, (w5.alloc (.cells #[.bool r1, .int .i64 s1] 38)) = wz := ⟨_, rfl⟩
  rw [hW6]
  have hB6 : Ext (w5.alloc (.cells #[.bool r1, .int .i64 s1] 38)) w6 := by rw [hW6]; exact Ext.refl _
  clear hW6
  have hz6 := hB6.size
  simp at hz6
  have l0_6 : w.heap.size < w6.heap.size := by omega
  have l1_6 : w.heap.size + 1 < w6.heap.size := by omega
  have l2_6 : w2.heap.size < w6.heap.size := by omega
  have l3_6 : w3.heap.size < w6.heap.size := by omega
  have l4_6 : w4.heap.size < w6.heap.size := by omega
  have l5_6 : w5.heap.size < w6.heap.size := by omega
  have c0_0_6 : w6.cell? ⟨w.heap.size, 0, none⟩ = some (.bool false) := hB6.keep (by first | (simp; done) | (simp; omega)) (by simp [go_sem, l0_5, l1_5, l2_5, l3_5, l4_5, c0_0_5])
  have c0_1_6 : w6.cell? ⟨w.heap.size, 1, none⟩ = some (.int .i64 av) := hB6.keep (by first | (simp; done) | (simp; omega)) (by simp [go_sem, l0_5, l1_5, l2_5, l3_5, l4_5, c0_1_5])
  have c1_0_6 : w6.cell? ⟨w.heap.size + 1, 0, none⟩ = some (.bool false) := hB6.keep (by first | (simp; done) | (simp; omega)) (by simp [go_sem, l0_5, l1_5, l2_5, l3_5, l4_5, c1_0_5])
  have c1_1_6 : w6.cell? ⟨w.heap.size + 1, 1, none⟩ = some (.int .i64 bv) := hB6.keep (by first | (simp; done) | (simp; omega)) (by simp [go_sem, l0_5, l1_5, l2_5, l3_5, l4_5, c1_1_5])
  have c2_0_6 : w6.cell? ⟨w2.heap.size, 0, none⟩ = some (.bool false) := hB6.keep (by first | (simp; done) | (simp; omega)) (by simp [go_sem, l0_5, l1_5, l2_5, l3_5, l4_5, c2_0_5])
  have c2_1_6 : w6.cell? ⟨w2.heap.size, 1, none⟩ = some (.int .i64 0) := hB6.keep (by first | (simp; done) | (simp; omega)) (by simp [go_sem, l0_5, l1_5, l2_5, l3_5, l4_5, c2_1_5])
  have c3_0_6 : w6.cell? ⟨w3.heap.size, 0, none⟩ = some (.bool false) := hB6.keep (by first | (simp; done) | (simp; omega)) (by simp [go_sem, l0_5, l1_5, l2_5, l3_5, l4_5, c3_0_5])
  have c3_1_6 : w6.cell? ⟨w3.heap.size, 1, none⟩ = some (.int .i64 0) := hB6.keep (by first | (simp; done) | (simp; omega)) (by simp [go_sem, l0_5, l1_5, l2_5, l3_5, l4_5, c3_1_5])
  have c4_0_6 : w6.cell? ⟨w4.heap.size, 0, none⟩ = some (.bool r1) := hB6.keep (by first | (simp; done) | (simp; omega)) (by simp [go_sem, l0_5, l1_5, l2_5, l3_5, l4_5, c4_0_5])
  have c4_1_6 : w6.cell? ⟨w4.heap.size, 1, none⟩ = some (.int .i64 s1) := hB6.keep (by first | (simp; done) | (simp; omega)) (by simp [go_sem, l0_5, l1_5, l2_5, l3_5, l4_5, c4_1_5])
  have c5_0_6 : w6.cell? ⟨w5.heap.size, 0, none⟩ = some (.bool r1) := hB6.keep (by first | (simp; done) | (simp; omega)) (by simp [go_sem, l0_5, l1_5, l2_5, l3_5, l4_5])
  have c5_1_6 : w6.cell? ⟨w5.heap.size, 1, none⟩ = some (.int .i64 s1) := hB6.keep (by first | (simp; done) | (simp; omega)) (by simp [go_sem, l0_5, l1_5, l2_5, l3_5, l4_5])
  clear c0_0_5 c0_1_5 c1_0_5 c1_1_5 c2_0_5 c2_1_5 c3_0_5 c3_1_5 c4_0_5 c4_1_5 l0_5 l1_5 l2_5 l3_5 l4_5
  go_wp2_with fail
  refine (rodd_any false av _).mono ?_
  rw [HA.out]
  rintro e w7 ⟨rfl, hB7⟩
  have hz7 := hB7.size
  have l0_7 : w.heap.size < w7.heap.size := by omega
  have l1_7 : w.heap.size + 1 < w7.heap.size := by omega
  have l2_7 : w2.heap.size < w7.heap.size := by omega
  have l3_7 : w3.heap.size < w7.heap.size := by omega
  have l4_7 : w4.heap.size < w7.heap.size := by omega
  have l5_7 : w5.heap.size < w7.heap.size := by omega
  have c0_0_7 : w7.cell? ⟨w.heap.size, 0, none⟩ = some (.bool false) := hB7.keep (by omega) c0_0_6
  have c0_1_7 : w7.cell? ⟨w.heap.size, 1, none⟩ = some (.int .i64 av) := hB7.keep (by omega) c0_1_6
  have c1_0_7 : w7.cell? ⟨w.heap.size + 1, 0, none⟩ = some (.bool false) := hB7.keep (by omega) c1_0_6
  have c1_1_7 : w7.cell? ⟨w.heap.size + 1, 1, none⟩ = some (.int .i64 bv) := hB7.keep (by omega) c1_1_6
  have c2_0_7 : w7.cell? ⟨w2.heap.size, 0, none⟩ = some (.bool false) := hB7.keep (by omega) c2_0_6
  have c2_1_7 : w7.cell? ⟨w2.heap.size, 1, none⟩ = some (.int .i64 0) := hB7.keep (by omega) c2_1_6
  have c3_0_7 : w7.cell? ⟨w3.heap.size, 0, none⟩ = some (.bool false) := hB7.keep (by omega) c3_0_6
  have c3_1_7 : w7.cell? ⟨w3.heap.size, 1, none⟩ = some (.int .i64 0) := hB7.keep (by omega) c3_1_6
  have c4_0_7 : w7.cell? ⟨w4.heap.size, 0, none⟩ = some (.bool r1) := hB7.keep (by omega) c4_0_6
  have c4_1_7 : w7.cell? ⟨w4.heap.size, 1, none⟩ = some (.int .i64 s1) := hB7.keep (by omega) c4_1_6
  have c5_0_7 : w7.cell? ⟨w5.heap.size, 0, none⟩ = some (.bool r1) := hB7.keep (by omega) c5_0_6
  have c5_1_7 : w7.cell? ⟨w5.heap.size, 1, none⟩ = some (.int .i64 s1) := hB7.keep (by omega) c5_1_6
  clear c0_0_6 c0_1_6 c1_0_6 c1_1_6 c2_0_6 c2_1_6 c3_0_6 c3_1_6 c4_0_6 c4_1_6 c5_0_6 c5_1_6 l0_6 l1_6 l2_6 l3_6 l4_6 l5_6
  go_wp2_with fail
  refine (rodd_any false bv _).mono ?_
  rw [HB.out]
  rintro e w8 ⟨rfl, hB8⟩
  have hz8 := hB8.size
  have l0_8 : w.heap.size < w8.heap.size := by omega
  have l1_8 : w.heap.size + 1 < w8.heap.size := by omega
  have l2_8 : w2.heap.size < w8.heap.size := by omega
  have l3_8 : w3.heap.size < w8.heap.size := by omega
  have l4_8 : w4.heap.size < w8.heap.size := by omega
  have l5_8 : w5.heap.size < w8.heap.size := by omega
  have c0_0_8 : w8.cell? ⟨w.heap.size, 0, none⟩ = some (.bool false) := hB8.keep (by omega) c0_0_7
  have c0_1_8 : w8.cell? ⟨w.heap.size, 1, none⟩ = some (.int .i64 av) := hB8.keep (by omega) c0_1_7
  have c1_0_8 : w8.cell? ⟨w.heap.size + 1, 0, none⟩ = some (.bool false) := hB8.keep (by omega) c1_0_7
  have c1_1_8 : w8.cell? ⟨w.heap.size + 1, 1, none⟩ = some (.int .i64 bv) := hB8.keep (by omega) c1_1_7
  have c2_0_8 : w8.cell? ⟨w2.heap.size, 0, none⟩ = some (.bool false) := hB8.keep (by omega) c2_0_7
  have c2_1_8 : w8.cell? ⟨w2.heap.size, 1, none⟩ = some (.int .i64 0) := hB8.keep (by omega) c2_1_7
  have c3_0_8 : w8.cell? ⟨w3.heap.size, 0, none⟩ = some (.bool false) := hB8.keep (by omega) c3_0_7
  have c3_1_8 : w8.cell? ⟨w3.heap.size, 1, none⟩ = some (.int .i64 0) := hB8.keep (by omega) c3_1_7
  have c4_0_8 : w8.cell? ⟨w4.heap.size, 0, none⟩ = some (.bool r1) := hB8.keep (by omega) c4_0_7
  have c4_1_8 : w8.cell? ⟨w4.heap.size, 1, none⟩ = some (.int .i64 s1) := hB8.keep (by omega) c4_1_7
  have c5_0_8 : w8.cell? ⟨w5.heap.size, 0, none⟩ = some (.bool r1) := hB8.keep (by omega) c5_0_7
  have c5_1_8 : w8.cell? ⟨w5.heap.size, 1, none⟩ = some (.int .i64 s1) := hB8.keep (by omega) c5_1_7
  clear c0_0_7 c0_1_7 c1_0_7 c1_1_7 c2_0_7 c2_1_7 c3_0_7 c3_1_7 c4_0_7 c4_1_7 c5_0_7 c5_1_7 l0_7 l1_7 l2_7 l3_7 l4_7 l5_7
  go_wp2_with fail
  refine (mod_any false false av bv _).mono ?_
  rw [E5.out]
  rintro e w9 ⟨rfl, hB9⟩
  have hz9 := hB9.size
  have l0_9 : w.heap.size < w9.heap.size := by omega
  have l1_9 : w.heap.size + 1 < w9.heap.size := by omega
  have l2_9 : w2.heap.size < w9.heap.size := by omega
  have l3_9 : w3.heap.size < w9.heap.size := by omega
  have l4_9 : w4.heap.size < w9.heap.size := by omega
  have l5_9 : w5.heap.size < w9.heap.size := by omega
  have c0_0_9 : w9.cell? ⟨w.heap.size, 0, none⟩ = some (.bool false) := hB9.keep (by omega) c0_0_8
  have c0_1_9 : w9.cell? ⟨w.heap.size, 1, none⟩ = some (.int .i64 av) := hB9.keep (by omega) c0_1_8
  have c1_0_9 : w9.cell? ⟨w.heap.size + 1, 0, none⟩ = some (.bool false) := hB9.keep (by omega) c1_0_8
  have c1_1_9 : w9.cell? ⟨w.heap.size + 1, 1, none⟩ = some (.int .i64 bv) := hB9.keep (by omega) c1_1_8
  have c2_0_9 : w9.cell? ⟨w2.heap.size, 0, none⟩ = some (.bool false) := hB9.keep (by omega) c2_0_8
  have c2_1_9 : w9.cell? ⟨w2.heap.size, 1, none⟩ = some (.int .i64 0) := hB9.keep (by omega) c2_1_8
  have c3_0_9 : w9.cell? ⟨w3.heap.size, 0, none⟩ = some (.bool false) := hB9.keep (by omega) c3_0_8
  have c3_1_9 : w9.cell? ⟨w3.heap.size, 1, none⟩ = some (.int .i64 0) := hB9.keep (by omega) c3_1_8
  have c4_0_9 : w9.cell? ⟨w4.heap.size, 0, none⟩ = some (.bool r1) := hB9.keep (by omega) c4_0_8
  have c4_1_9 : w9.cell? ⟨w4.heap.size, 1, none⟩ = some (.int .i64 s1) := hB9.keep (by omega) c4_1_8
  have c5_0_9 : w9.cell? ⟨w5.heap.size, 0, none⟩ = some (.bool r1) := hB9.keep (by omega) c5_0_8
  have c5_1_9 : w9.cell? ⟨w5.heap.size, 1, none⟩ = some (.int .i64 s1) := hB9.keep (by omega) c5_1_8
  clear c0_0_8 c0_1_8 c1_0_8 c1_1_8 c2_0_8 c2_1_8 c3_0_8 c3_1_8 c4_0_8 c4_1_8 c5_0_8 c5_1_8 l0_8 l1_8 l2_8 l3_8 l4_8 l5_8
  go_wp2_with fail
  obtain ⟨w10, hW10⟩ : ∃ wz, (w9.alloc (.cells #[.bool false, .int .i64 (av.tmod bv)] 38)) = wz := ⟨_, rfl⟩
  rw [hW10]
  have hB10 : Ext (w9.alloc (.cells #[.bool false, .int .i64 (av.tmod bv)] 38)) w10 := by rw [hW10]; exact Ext.refl _
  clear hW10
  have hz10 := hB10.size
  simp at hz10
  have l0_10 : w.heap.size < w10.heap.size := by omega
  have l1_10 : w.heap.size + 1 < w10.heap.size := by omega
  have l2_10 : w2.heap.size < w10.heap.size := by omega
  have l3_10 : w3.heap.size < w10.heap.size := by omega
  have l4_10 : w4.heap.size < w10.heap.size := by omega
  have l5_10 : w5.heap.size < w10.heap.size := by omega
  have l6_10 : w9.heap.size < w10.heap.size := by omega
  have c0_0_10 : w10.cell? ⟨w.heap.size, 0, none⟩ = some (.bool false) := hB10.keep (by first | (simp; done) | (simp; omega)) (by simp [go_sem, l0_9, l1_9, l2_9, l3_9, l4_9, l5_9, c0_0_9])
  have c0_1_10 : w10.cell? ⟨w.heap.size, 1, none⟩ = some (.int .i64 av) := hB10.keep (by first | (simp; done) | (simp; omega)) (by simp [go_sem, l0_9, l1_9, l2_9, l3_9, l4_9, l5_9, c0_1_9])
  have c1_0_10 : w10.cell? ⟨w.heap.size + 1, 0, none⟩ = some (.bool false) := hB10.keep (by first | (simp; done) | (simp; omega)) (by simp [go_sem, l0_9, l1_9, l2_9, l3_9, l4_9, l5_9, c1_0_9])
  have c1_1_10 : w10.cell? ⟨w.heap.size + 1, 1, none⟩ = some (.int .i64 bv) := hB10.keep (by first | (simp; done) | (simp; omega)) (by simp [go_sem, l0_9, l1_9, l2_9, l3_9, l4_9, l5_9, c1_1_9])
  have c2_0_10 : w10.cell? ⟨w2.heap.size, 0, none⟩ = some (.bool false) := hB10.keep (by first | (simp; done) | (simp; omega)) (by simp [go_sem, l0_9, l1_9, l2_9, l3_9, l4_9, l5_9, c2_0_9])
  have c2_1_10 : w10.cell? ⟨w2.heap.size, 1, none⟩ = some (.int .i64 0) := hB10.keep (by first | (simp; done) | (simp; omega)) (by simp [go_sem, l0_9, l1_9, l2_9, l3_9, l4_9, l5_9, c2_1_9])
  have c3_0_10 : w10.cell? ⟨w3.heap.size, 0, none⟩ = some (.bool false) := hB10.keep (by first | (simp; done) | (simp; omega)) (by simp [go_sem, l0_9, l1_9, l2_9, l3_9, l4_9, l5_9, c3_0_9])
  have c3_1_10 : w10.cell? ⟨w3.heap.size, 1, none⟩ = some (.int .i64 0) := hB10.keep (by first | (simp; done) | (simp; omega)) (by simp [go_sem, l0_9, l1_9, l2_9, l3_9, l4_9, l5_9, c3_1_9])
  have c4_0_10 : w10.cell? ⟨w4.heap.size, 0, none⟩ = some (.bool r1) := hB10.keep (by first | (simp; done) | (simp; omega)) (by simp [go_sem, l0_9, l1_9, l2_9, l3_9, l4_9, l5_9, c4_0_9])
  have c4_1_10 : w10.cell? ⟨w4.heap.size, 1, none⟩ = some (.int .i64 s1) := hB10.keep (by first | (simp; done) | (simp; omega)) (by simp [go_sem, l0_9, l1_9, l2_9, l3_9, l4_9, l5_9, c4_1_9])
  have c5_0_10 : w10.cell? ⟨w5.heap.size, 0, none⟩ = some (.bool r1) := hB10.keep (by first | (simp; done) | (simp; omega)) (by simp [go_sem, l0_9, l1_9, l2_9, l3_9, l4_9, l5_9, c5_0_9])
  have c5_1_10 : w10.cell? ⟨w5.heap.size, 1, none⟩ = some (.int .i64 s1) := hB10.keep (by first | (simp; done) | (simp; omega)) (by simp [go_sem, l0_9, l1_9, l2_9, l3_9, l4_9, l5_9, c5_1_9])
  have c6_0_10 : w10.cell? ⟨w9.heap.size, 0, none⟩ = some (.bool false) := hB10.keep (by first | (simp; done) | (simp; omega)) (by simp [go_sem, l0_9, l1_9, l2_9, l3_9, l4_9, l5_9])
  have c6_1_10 : w10.cell? ⟨w9.heap.size, 1, none⟩ = some (.int .i64 (av.tmod bv)) := hB10.keep (by first | (simp; done) | (simp; omega)) (by simp [go_sem, l0_9, l1_9, l2_9, l3_9, l4_9, l5_9])
  clear c0_0_9 c0_1_9 c1_0_9 c1_1_9 c2_0_9 c2_1_9 c3_0_9 c3_1_9 c4_0_9 c4_1_9 c5_0_9 c5_1_9 l0_9 l1_9 l2_9 l3_9 l4_9 l5_9
  go_wp2_with fail
  go_quiet (fail)
  go_wp2_with fail
  go_ret
  refine ⟨by first | rfl | (rw [hsg]; simp), ?_⟩
  repeat (first | exact Ext.refl _ | refine Ext.set ?_ (by dsimp only; omega) _ | refine Ext.alloc ?_ _ | refine Ext.drew ?_ | refine Ext.drewN ?_ _ | refine (Ext.trans ?_ (by assumption)))
end Go.Proofs.YtcdpjgdaofgpcaaDoor
