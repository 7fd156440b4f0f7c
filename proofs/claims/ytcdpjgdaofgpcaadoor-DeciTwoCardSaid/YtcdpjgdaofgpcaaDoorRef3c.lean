/-
  Contracts of the reference of layer 3, third part: Mul, Div. Helper lemmas; no statement of the seat is proved here.
-/
import Derived.Test.YtcdpjgdaofgpcaaDoorRef3
import Derived.Test.YtcdpjgdaofgpcaaDoorDeciPlain
import Derived.LoopTactic
namespace Go.Proofs.YtcdpjgdaofgpcaaDoor
open Go.RowKit
set_option maxRecDepth 100000
set_option linter.unusedVariables false

theorem mul_sum (a b : Int) : absI a / 1000000 * absI b + absI a % 1000000 * (absI b / 1000000) + absI a % 1000000 * (absI b % 1000000) / 1000000 = ((a.natAbs * b.natAbs / 1000000 : Nat) : Int) := by
  rw [KDeci.mul_parts]
  unfold absI
  simp only [Int.natCast_add, Int.natCast_mul, Int.natCast_ediv, Int.natCast_emod]
  rfl
theorem mul_le_of_div (a b m : Int) (ha : 0 < a) (h : b ≤ m / a) : a * b ≤ m := by
  have := (Int.le_ediv_iff_mul_le ha).1 h
  rw [Int.mul_comm]; exact this

theorem rmul_odd1 (an bn : Bool) (av bv : Int) (w : World) (ho : oddB an av = true) : Calls Tryd.prog 37 #[.agg #[.bool an, .int .i64 av], .agg #[.bool bn, .int .i64 bv]] w fun e w' => e = .returned (.tuple #[.agg #[.bool true, .int .i64 0], .int .i64 0]) ∧ Ext w w' := by
  have HO := Lib.hid ho; clear ho
  go_enter Tryd.func37, Tryd.ntmps37
  go_wp2_with fail
  refine (rodd_any an av _).mono ?_
  rw [HO.out]
  rintro e w1 ⟨rfl, hB1⟩
  have hc1 := hB1.cells; have hf1 := hB1.frees; have hz1 := hB1.size
  simp at hz1
  go_wp2_with fail
  have hc := hB1.cells; have hf := hB1.frees; have hz := hB1.size
  simp at hz
  refine (rnone_any _).mono ?_
  rintro e w9 ⟨rfl, hB9⟩
  have hc9 := hB9.cells; have hf9 := hB9.frees; have hz9 := hB9.size
  have l2 : w.heap.size + 1 + 1 < w1.heap.size := by omega
  have l9 : w.heap.size + 1 + 1 < w9.heap.size := by omega
  go_wp2_with fail
  refine bodyPost_ret (v := .tuple #[.agg #[.bool true, .int .i64 0], .int .i64 0]) (by simp [results, Tryd.results37, go_sem, hc, hc9, l2]) rfl ⟨rfl, ?_⟩
  repeat (first | exact Ext.refl _ | refine Ext.set ?_ (by dsimp only; omega) _ | refine Ext.alloc ?_ _ | refine Ext.drew ?_ | refine (Ext.trans ?_ (by assumption)))

theorem rmul_odd2 (bn : Bool) (av bv : Int) (w : World) (ha : oddB false av = false) (ho : oddB bn bv = true) : Calls Tryd.prog 37 #[.agg #[.bool false, .int .i64 av], .agg #[.bool bn, .int .i64 bv]] w fun e w' => e = .returned (.tuple #[.agg #[.bool true, .int .i64 0], .int .i64 0]) ∧ Ext w w' := by
  have HA := Lib.hid ha; have HO := Lib.hid ho; clear ho ha
  go_enter Tryd.func37, Tryd.ntmps37
  go_wp2_with fail
  refine (rodd_any false av _).mono ?_
  rw [HA.out]
  rintro e w1 ⟨rfl, hB1⟩
  have hc1 := hB1.cells; have hf1 := hB1.frees; have hz1 := hB1.size
  simp at hz1
  go_wp2_with fail
  refine (rodd_any bn bv _).mono ?_
  rw [HO.out]
  rintro e w2 ⟨rfl, hB2⟩
  go_wp2_with fail
  have hc := (hB1.trans hB2).cells; have hf := (hB1.trans hB2).frees; have hz := (hB1.trans hB2).size
  simp at hz
  refine (rnone_any _).mono ?_
  rintro e w9 ⟨rfl, hB9⟩
  have hc9 := hB9.cells; have hf9 := hB9.frees; have hz9 := hB9.size
  have l2 : w.heap.size + 1 + 1 < w2.heap.size := by omega
  have l9 : w.heap.size + 1 + 1 < w9.heap.size := by omega
  go_wp2_with fail
  refine bodyPost_ret (v := .tuple #[.agg #[.bool true, .int .i64 0], .int .i64 0]) (by simp [results, Tryd.results37, go_sem, hc, hc9, l2]) rfl ⟨rfl, ?_⟩
  repeat (first | exact Ext.refl _ | refine Ext.set ?_ (by dsimp only; omega) _ | refine Ext.alloc ?_ _ | refine Ext.drew ?_ | refine (Ext.trans ?_ (by assumption)))

theorem rmul_range (av bv : Int) (w : World) (ha : oddB false av = false) (hb : oddB false bv = false) (h0 : 0 < absI av / 1000000) (hr : 1000000000000000 / (absI av / 1000000) < absI bv) : Calls Tryd.prog 37 #[.agg #[.bool false, .int .i64 av], .agg #[.bool false, .int .i64 bv]] w fun e w' => e = .returned (.tuple #[.agg #[.bool false, .int .i64 0], .int .i64 66]) ∧ Ext w w' := by
  obtain ⟨_, a1, a2⟩ := oddB_false ha
  obtain ⟨_, b1, b2⟩ := oddB_false hb
  have v1 := absI_nonneg av
  have v2 : absI av ≤ 1000000000000000 := by unfold absI; omega
  have v3 := absI_nonneg bv
  have v4 : absI bv ≤ 1000000000000000 := by unfold absI; omega
  have q0 : 0 ≤ 1000000000000000 / (absI av / 1000000) := Int.ediv_nonneg (by omega) (by omega)
  have q1 : 1000000000000000 / (absI av / 1000000) ≤ 1000000000000000 := Int.ediv_le_self _ (by omega)
  have HA := Lib.hid ha; have HO := Lib.hid hb; clear hb ha
  go_enter Tryd.func37, Tryd.ntmps37
  go_wp2_with fail
  refine (rodd_any false av _).mono ?_
  rw [HA.out]
  rintro e w1 ⟨rfl, hB1⟩
  have hc1 := hB1.cells; have hf1 := hB1.frees; have hz1 := hB1.size
  simp at hz1
  go_wp2_with fail
  refine (rodd_any false bv _).mono ?_
  rw [HO.out]
  rintro e w2 ⟨rfl, hB2⟩
  have hc2 := (hB1.trans hB2).cells; have hf2 := (hB1.trans hB2).frees; have hz2 := hB2.size
  go_wp2_with fail
  refine (rabs_any av _ (by omega) (by omega)).mono ?_
  rintro e w' ⟨rfl, rfl⟩
  go_wp2_with fail
  refine (rabs_any bv _ (by omega) (by omega)).mono ?_
  rintro e w' ⟨rfl, rfl⟩
  go_wp2_with fail
  refine bodyPost_ret (v := .tuple #[.agg #[.bool false, .int .i64 0], .int .i64 66]) (by simp [results, Tryd.results37, go_sem, hc2]) rfl ⟨rfl, ?_⟩
  repeat (first | exact Ext.refl _ | refine Ext.set ?_ (by dsimp only; omega) _ | refine Ext.alloc ?_ _ | refine Ext.drew ?_ | refine (Ext.trans ?_ (by assumption)))

theorem rmul_lownn (av bv : Int) (w : World) (ha : oddB false av = false) (hb : oddB false bv = false) (sa : av < 0) (sb : bv < 0) (h0 : absI av / 1000000 ≤ 0) {r1 : Bool} {r2 r3 : Int} (hr : fitS (absI av / 1000000 * absI bv + absI av % 1000000 * (absI bv / 1000000) + absI av % 1000000 * (absI bv % 1000000) / 1000000) = ((r1, r2), r3)) : Calls Tryd.prog 37 #[.agg #[.bool false, .int .i64 av], .agg #[.bool false, .int .i64 bv]] w fun e w' => e = .returned (.tuple #[.agg #[.bool r1, .int .i64 r2], .int .i64 r3]) ∧ Ext w w' := by
  obtain ⟨_, a1, a2⟩ := oddB_false ha
  obtain ⟨_, b1, b2⟩ := oddB_false hb
  have da : decide (av < 0) = true := by simp; omega
  have db : decide (bv < 0) = true := by simp; omega
  have v1 := absI_nonneg av
  have v2 : absI av ≤ 1000000000000000 := by unfold absI; omega
  have v3 := absI_nonneg bv
  have v4 : absI bv ≤ 1000000000000000 := by unfold absI; omega
  have m1 : absI av / 1000000 * absI bv ≤ 1000000000000000 := by
    have e : absI av / 1000000 = 0 := by omega
    rw [e]; omega
  have m0 : 0 ≤ absI av / 1000000 * absI bv := Int.mul_nonneg (by omega) v3
  have m2 : 0 ≤ absI av % 1000000 * (absI bv / 1000000) := Int.mul_nonneg (by omega) (by omega)
  have m3 : absI av % 1000000 * (absI bv / 1000000) ≤ 1000000 * 1000000000 := Int.mul_le_mul (by omega) (by omega) (by omega) (by omega)
  have m4 : 0 ≤ absI av % 1000000 * (absI bv % 1000000) := Int.mul_nonneg (by omega) (by omega)
  have m5 : absI av % 1000000 * (absI bv % 1000000) ≤ 1000000 * 1000000 := Int.mul_le_mul (by omega) (by omega) (by omega) (by omega)
  have HR := Lib.hid hr; clear hr
  have HA := Lib.hid ha; have HO := Lib.hid hb; clear hb ha
  go_enter Tryd.func37, Tryd.ntmps37
  go_wp2_with fail
  refine (rodd_any false av _).mono ?_
  rw [HA.out]
  rintro e w1 ⟨rfl, hB1⟩
  have hc1 := hB1.cells; have hf1 := hB1.frees; have hz1 := hB1.size
  simp at hz1
  go_wp2_with fail
  refine (rodd_any false bv _).mono ?_
  rw [HO.out]
  rintro e w2 ⟨rfl, hB2⟩
  have hc2 := (hB1.trans hB2).cells; have hf2 := (hB1.trans hB2).frees; have hz2 := hB2.size
  go_wp2_with fail
  refine (rabs_any av _ (by omega) (by omega)).mono ?_
  rintro e w' ⟨rfl, rfl⟩
  go_wp2_with fail
  refine (rabs_any bv _ (by omega) (by omega)).mono ?_
  rintro e w' ⟨rfl, rfl⟩
  go_wp2_with fail
  refine (rfit_any _ _ HR.out).mono ?_
  rintro e w3 ⟨rfl, hB3⟩
  have hc3 := ((hB1.trans hB2).trans hB3).cells; have hf3 := ((hB1.trans hB2).trans hB3).frees; have hz3 := hB3.size
  go_wp2_with fail
  refine bodyPost_ret (v := .tuple #[.agg #[.bool r1, .int .i64 r2], .int .i64 r3]) (by simp [results, Tryd.results37, go_sem, hc3]) rfl ⟨rfl, ?_⟩
  repeat (first | exact Ext.refl _ | refine Ext.set ?_ (by dsimp only; omega) _ | refine Ext.alloc ?_ _ | refine Ext.drew ?_ | refine (Ext.trans ?_ (by assumption)))

theorem rmul_highnn (av bv : Int) (w : World) (ha : oddB false av = false) (hb : oddB false bv = false) (sa : av < 0) (sb : bv < 0) (h0 : 0 < absI av / 1000000) (hr0 : absI bv ≤ 1000000000000000 / (absI av / 1000000)) {r1 : Bool} {r2 r3 : Int} (hr : fitS (absI av / 1000000 * absI bv + absI av % 1000000 * (absI bv / 1000000) + absI av % 1000000 * (absI bv % 1000000) / 1000000) = ((r1, r2), r3)) : Calls Tryd.prog 37 #[.agg #[.bool false, .int .i64 av], .agg #[.bool false, .int .i64 bv]] w fun e w' => e = .returned (.tuple #[.agg #[.bool r1, .int .i64 r2], .int .i64 r3]) ∧ Ext w w' := by
  obtain ⟨_, a1, a2⟩ := oddB_false ha
  obtain ⟨_, b1, b2⟩ := oddB_false hb
  have da : decide (av < 0) = true := by simp; omega
  have db : decide (bv < 0) = true := by simp; omega
  have v1 := absI_nonneg av
  have v2 : absI av ≤ 1000000000000000 := by unfold absI; omega
  have v3 := absI_nonneg bv
  have v4 : absI bv ≤ 1000000000000000 := by unfold absI; omega
  have m1 : absI av / 1000000 * absI bv ≤ 1000000000000000 := mul_le_of_div _ _ _ h0 hr0
  have q0 : 0 ≤ 1000000000000000 / (absI av / 1000000) := Int.ediv_nonneg (by omega) (by omega)
  have q1 : 1000000000000000 / (absI av / 1000000) ≤ 1000000000000000 := Int.ediv_le_self _ (by omega)
  have m0 : 0 ≤ absI av / 1000000 * absI bv := Int.mul_nonneg (by omega) v3
  have m2 : 0 ≤ absI av % 1000000 * (absI bv / 1000000) := Int.mul_nonneg (by omega) (by omega)
  have m3 : absI av % 1000000 * (absI bv / 1000000) ≤ 1000000 * 1000000000 := Int.mul_le_mul (by omega) (by omega) (by omega) (by omega)
  have m4 : 0 ≤ absI av % 1000000 * (absI bv % 1000000) := Int.mul_nonneg (by omega) (by omega)
  have m5 : absI av % 1000000 * (absI bv % 1000000) ≤ 1000000 * 1000000 := Int.mul_le_mul (by omega) (by omega) (by omega) (by omega)
  have HR := Lib.hid hr; clear hr
  have HA := Lib.hid ha; have HO := Lib.hid hb; clear hb ha
  go_enter Tryd.func37, Tryd.ntmps37
  go_wp2_with fail
  refine (rodd_any false av _).mono ?_
  rw [HA.out]
  rintro e w1 ⟨rfl, hB1⟩
  have hc1 := hB1.cells; have hf1 := hB1.frees; have hz1 := hB1.size
  simp at hz1
  go_wp2_with fail
  refine (rodd_any false bv _).mono ?_
  rw [HO.out]
  rintro e w2 ⟨rfl, hB2⟩
  have hc2 := (hB1.trans hB2).cells; have hf2 := (hB1.trans hB2).frees; have hz2 := hB2.size
  go_wp2_with fail
  refine (rabs_any av _ (by omega) (by omega)).mono ?_
  rintro e w' ⟨rfl, rfl⟩
  go_wp2_with fail
  refine (rabs_any bv _ (by omega) (by omega)).mono ?_
  rintro e w' ⟨rfl, rfl⟩
  go_wp2_with fail
  refine (rfit_any _ _ HR.out).mono ?_
  rintro e w3 ⟨rfl, hB3⟩
  have hc3 := ((hB1.trans hB2).trans hB3).cells; have hf3 := ((hB1.trans hB2).trans hB3).frees; have hz3 := hB3.size
  go_wp2_with fail
  refine bodyPost_ret (v := .tuple #[.agg #[.bool r1, .int .i64 r2], .int .i64 r3]) (by simp [results, Tryd.results37, go_sem, hc3]) rfl ⟨rfl, ?_⟩
  repeat (first | exact Ext.refl _ | refine Ext.set ?_ (by dsimp only; omega) _ | refine Ext.alloc ?_ _ | refine Ext.drew ?_ | refine (Ext.trans ?_ (by assumption)))

theorem rmul_lownp (av bv : Int) (w : World) (ha : oddB false av = false) (hb : oddB false bv = false) (sa : av < 0) (sb : 0 ≤ bv) (h0 : absI av / 1000000 ≤ 0) {r1 : Bool} {r2 r3 : Int} (hr : fitS (-(absI av / 1000000 * absI bv + absI av % 1000000 * (absI bv / 1000000) + absI av % 1000000 * (absI bv % 1000000) / 1000000)) = ((r1, r2), r3)) : Calls Tryd.prog 37 #[.agg #[.bool false, .int .i64 av], .agg #[.bool false, .int .i64 bv]] w fun e w' => e = .returned (.tuple #[.agg #[.bool r1, .int .i64 r2], .int .i64 r3]) ∧ Ext w w' := by
  obtain ⟨_, a1, a2⟩ := oddB_false ha
  obtain ⟨_, b1, b2⟩ := oddB_false hb
  have da : decide (av < 0) = true := by simp; omega
  have db : decide (bv < 0) = false := by simp; omega
  have v1 := absI_nonneg av
  have v2 : absI av ≤ 1000000000000000 := by unfold absI; omega
  have v3 := absI_nonneg bv
  have v4 : absI bv ≤ 1000000000000000 := by unfold absI; omega
  have m1 : absI av / 1000000 * absI bv ≤ 1000000000000000 := by
    have e : absI av / 1000000 = 0 := by omega
    rw [e]; omega
  have m0 : 0 ≤ absI av / 1000000 * absI bv := Int.mul_nonneg (by omega) v3
  have m2 : 0 ≤ absI av % 1000000 * (absI bv / 1000000) := Int.mul_nonneg (by omega) (by omega)
  have m3 : absI av % 1000000 * (absI bv / 1000000) ≤ 1000000 * 1000000000 := Int.mul_le_mul (by omega) (by omega) (by omega) (by omega)
  have m4 : 0 ≤ absI av % 1000000 * (absI bv % 1000000) := Int.mul_nonneg (by omega) (by omega)
  have m5 : absI av % 1000000 * (absI bv % 1000000) ≤ 1000000 * 1000000 := Int.mul_le_mul (by omega) (by omega) (by omega) (by omega)
  have HR := Lib.hid hr; clear hr
  have HA := Lib.hid ha; have HO := Lib.hid hb; clear hb ha
  go_enter Tryd.func37, Tryd.ntmps37
  go_wp2_with fail
  refine (rodd_any false av _).mono ?_
  rw [HA.out]
  rintro e w1 ⟨rfl, hB1⟩
  have hc1 := hB1.cells; have hf1 := hB1.frees; have hz1 := hB1.size
  simp at hz1
  go_wp2_with fail
  refine (rodd_any false bv _).mono ?_
  rw [HO.out]
  rintro e w2 ⟨rfl, hB2⟩
  have hc2 := (hB1.trans hB2).cells; have hf2 := (hB1.trans hB2).frees; have hz2 := hB2.size
  go_wp2_with fail
  refine (rabs_any av _ (by omega) (by omega)).mono ?_
  rintro e w' ⟨rfl, rfl⟩
  go_wp2_with fail
  refine (rabs_any bv _ (by omega) (by omega)).mono ?_
  rintro e w' ⟨rfl, rfl⟩
  go_wp2_with fail
  refine (rfit_any _ _ HR.out).mono ?_
  rintro e w3 ⟨rfl, hB3⟩
  have hc3 := ((hB1.trans hB2).trans hB3).cells; have hf3 := ((hB1.trans hB2).trans hB3).frees; have hz3 := hB3.size
  go_wp2_with fail
  refine bodyPost_ret (v := .tuple #[.agg #[.bool r1, .int .i64 r2], .int .i64 r3]) (by simp [results, Tryd.results37, go_sem, hc3]) rfl ⟨rfl, ?_⟩
  repeat (first | exact Ext.refl _ | refine Ext.set ?_ (by dsimp only; omega) _ | refine Ext.alloc ?_ _ | refine Ext.drew ?_ | refine (Ext.trans ?_ (by assumption)))

theorem rmul_highnp (av bv : Int) (w : World) (ha : oddB false av = false) (hb : oddB false bv = false) (sa : av < 0) (sb : 0 ≤ bv) (h0 : 0 < absI av / 1000000) (hr0 : absI bv ≤ 1000000000000000 / (absI av / 1000000)) {r1 : Bool} {r2 r3 : Int} (hr : fitS (-(absI av / 1000000 * absI bv + absI av % 1000000 * (absI bv / 1000000) + absI av % 1000000 * (absI bv % 1000000) / 1000000)) = ((r1, r2), r3)) : Calls Tryd.prog 37 #[.agg #[.bool false, .int .i64 av], .agg #[.bool false, .int .i64 bv]] w fun e w' => e = .returned (.tuple #[.agg #[.bool r1, .int .i64 r2], .int .i64 r3]) ∧ Ext w w' := by
  obtain ⟨_, a1, a2⟩ := oddB_false ha
  obtain ⟨_, b1, b2⟩ := oddB_false hb
  have da : decide (av < 0) = true := by simp; omega
  have db : decide (bv < 0) = false := by simp; omega
  have v1 := absI_nonneg av
  have v2 : absI av ≤ 1000000000000000 := by unfold absI; omega
  have v3 := absI_nonneg bv
  have v4 : absI bv ≤ 1000000000000000 := by unfold absI; omega
  have m1 : absI av / 1000000 * absI bv ≤ 1000000000000000 := mul_le_of_div _ _ _ h0 hr0
  have q0 : 0 ≤ 1000000000000000 / (absI av / 1000000) := Int.ediv_nonneg (by omega) (by omega)
  have q1 : 1000000000000000 / (absI av / 1000000) ≤ 1000000000000000 := Int.ediv_le_self _ (by omega)
  have m0 : 0 ≤ absI av / 1000000 * absI bv := Int.mul_nonneg (by omega) v3
  have m2 : 0 ≤ absI av % 1000000 * (absI bv / 1000000) := Int.mul_nonneg (by omega) (by omega)
  have m3 : absI av % 1000000 * (absI bv / 1000000) ≤ 1000000 * 1000000000 := Int.mul_le_mul (by omega) (by omega) (by omega) (by omega)
  have m4 : 0 ≤ absI av % 1000000 * (absI bv % 1000000) := Int.mul_nonneg (by omega) (by omega)
  have m5 : absI av % 1000000 * (absI bv % 1000000) ≤ 1000000 * 1000000 := Int.mul_le_mul (by omega) (by omega) (by omega) (by omega)
  have HR := Lib.hid hr; clear hr
  have HA := Lib.hid ha; have HO := Lib.hid hb; clear hb ha
  go_enter Tryd.func37, Tryd.ntmps37
  go_wp2_with fail
  refine (rodd_any false av _).mono ?_
  rw [HA.out]
  rintro e w1 ⟨rfl, hB1⟩
  have hc1 := hB1.cells; have hf1 := hB1.frees; have hz1 := hB1.size
  simp at hz1
  go_wp2_with fail
  refine (rodd_any false bv _).mono ?_
  rw [HO.out]
  rintro e w2 ⟨rfl, hB2⟩
  have hc2 := (hB1.trans hB2).cells; have hf2 := (hB1.trans hB2).frees; have hz2 := hB2.size
  go_wp2_with fail
  refine (rabs_any av _ (by omega) (by omega)).mono ?_
  rintro e w' ⟨rfl, rfl⟩
  go_wp2_with fail
  refine (rabs_any bv _ (by omega) (by omega)).mono ?_
  rintro e w' ⟨rfl, rfl⟩
  go_wp2_with fail
  refine (rfit_any _ _ HR.out).mono ?_
  rintro e w3 ⟨rfl, hB3⟩
  have hc3 := ((hB1.trans hB2).trans hB3).cells; have hf3 := ((hB1.trans hB2).trans hB3).frees; have hz3 := hB3.size
  go_wp2_with fail
  refine bodyPost_ret (v := .tuple #[.agg #[.bool r1, .int .i64 r2], .int .i64 r3]) (by simp [results, Tryd.results37, go_sem, hc3]) rfl ⟨rfl, ?_⟩
  repeat (first | exact Ext.refl _ | refine Ext.set ?_ (by dsimp only; omega) _ | refine Ext.alloc ?_ _ | refine Ext.drew ?_ | refine (Ext.trans ?_ (by assumption)))

theorem rmul_lowpn (av bv : Int) (w : World) (ha : oddB false av = false) (hb : oddB false bv = false) (sa : 0 ≤ av) (sb : bv < 0) (h0 : absI av / 1000000 ≤ 0) {r1 : Bool} {r2 r3 : Int} (hr : fitS (-(absI av / 1000000 * absI bv + absI av % 1000000 * (absI bv / 1000000) + absI av % 1000000 * (absI bv % 1000000) / 1000000)) = ((r1, r2), r3)) : Calls Tryd.prog 37 #[.agg #[.bool false, .int .i64 av], .agg #[.bool false, .int .i64 bv]] w fun e w' => e = .returned (.tuple #[.agg #[.bool r1, .int .i64 r2], .int .i64 r3]) ∧ Ext w w' := by
  obtain ⟨_, a1, a2⟩ := oddB_false ha
  obtain ⟨_, b1, b2⟩ := oddB_false hb
  have da : decide (av < 0) = false := by simp; omega
  have db : decide (bv < 0) = true := by simp; omega
  have v1 := absI_nonneg av
  have v2 : absI av ≤ 1000000000000000 := by unfold absI; omega
  have v3 := absI_nonneg bv
  have v4 : absI bv ≤ 1000000000000000 := by unfold absI; omega
  have m1 : absI av / 1000000 * absI bv ≤ 1000000000000000 := by
    have e : absI av / 1000000 = 0 := by omega
    rw [e]; omega
  have m0 : 0 ≤ absI av / 1000000 * absI bv := Int.mul_nonneg (by omega) v3
  have m2 : 0 ≤ absI av % 1000000 * (absI bv / 1000000) := Int.mul_nonneg (by omega) (by omega)
  have m3 : absI av % 1000000 * (absI bv / 1000000) ≤ 1000000 * 1000000000 := Int.mul_le_mul (by omega) (by omega) (by omega) (by omega)
  have m4 : 0 ≤ absI av % 1000000 * (absI bv % 1000000) := Int.mul_nonneg (by omega) (by omega)
  have m5 : absI av % 1000000 * (absI bv % 1000000) ≤ 1000000 * 1000000 := Int.mul_le_mul (by omega) (by omega) (by omega) (by omega)
  have HR := Lib.hid hr; clear hr
  have HA := Lib.hid ha; have HO := Lib.hid hb; clear hb ha
  go_enter Tryd.func37, Tryd.ntmps37
  go_wp2_with fail
  refine (rodd_any false av _).mono ?_
  rw [HA.out]
  rintro e w1 ⟨rfl, hB1⟩
  have hc1 := hB1.cells; have hf1 := hB1.frees; have hz1 := hB1.size
  simp at hz1
  go_wp2_with fail
  refine (rodd_any false bv _).mono ?_
  rw [HO.out]
  rintro e w2 ⟨rfl, hB2⟩
  have hc2 := (hB1.trans hB2).cells; have hf2 := (hB1.trans hB2).frees; have hz2 := hB2.size
  go_wp2_with fail
  refine (rabs_any av _ (by omega) (by omega)).mono ?_
  rintro e w' ⟨rfl, rfl⟩
  go_wp2_with fail
  refine (rabs_any bv _ (by omega) (by omega)).mono ?_
  rintro e w' ⟨rfl, rfl⟩
  go_wp2_with fail
  refine (rfit_any _ _ HR.out).mono ?_
  rintro e w3 ⟨rfl, hB3⟩
  have hc3 := ((hB1.trans hB2).trans hB3).cells; have hf3 := ((hB1.trans hB2).trans hB3).frees; have hz3 := hB3.size
  go_wp2_with fail
  refine bodyPost_ret (v := .tuple #[.agg #[.bool r1, .int .i64 r2], .int .i64 r3]) (by simp [results, Tryd.results37, go_sem, hc3]) rfl ⟨rfl, ?_⟩
  repeat (first | exact Ext.refl _ | refine Ext.set ?_ (by dsimp only; omega) _ | refine Ext.alloc ?_ _ | refine Ext.drew ?_ | refine (Ext.trans ?_ (by assumption)))

theorem rmul_highpn (av bv : Int) (w : World) (ha : oddB false av = false) (hb : oddB false bv = false) (sa : 0 ≤ av) (sb : bv < 0) (h0 : 0 < absI av / 1000000) (hr0 : absI bv ≤ 1000000000000000 / (absI av / 1000000)) {r1 : Bool} {r2 r3 : Int} (hr : fitS (-(absI av / 1000000 * absI bv + absI av % 1000000 * (absI bv / 1000000) + absI av % 1000000 * (absI bv % 1000000) / 1000000)) = ((r1, r2), r3)) : Calls Tryd.prog 37 #[.agg #[.bool false, .int .i64 av], .agg #[.bool false, .int .i64 bv]] w fun e w' => e = .returned (.tuple #[.agg #[.bool r1, .int .i64 r2], .int .i64 r3]) ∧ Ext w w' := by
  obtain ⟨_, a1, a2⟩ := oddB_false ha
  obtain ⟨_, b1, b2⟩ := oddB_false hb
  have da : decide (av < 0) = false := by simp; omega
  have db : decide (bv < 0) = true := by simp; omega
  have v1 := absI_nonneg av
  have v2 : absI av ≤ 1000000000000000 := by unfold absI; omega
  have v3 := absI_nonneg bv
  have v4 : absI bv ≤ 1000000000000000 := by unfold absI; omega
  have m1 : absI av / 1000000 * absI bv ≤ 1000000000000000 := mul_le_of_div _ _ _ h0 hr0
  have q0 : 0 ≤ 1000000000000000 / (absI av / 1000000) := Int.ediv_nonneg (by omega) (by omega)
  have q1 : 1000000000000000 / (absI av / 1000000) ≤ 1000000000000000 := Int.ediv_le_self _ (by omega)
  have m0 : 0 ≤ absI av / 1000000 * absI bv := Int.mul_nonneg (by omega) v3
  have m2 : 0 ≤ absI av % 1000000 * (absI bv / 1000000) := Int.mul_nonneg (by omega) (by omega)
  have m3 : absI av % 1000000 * (absI bv / 1000000) ≤ 1000000 * 1000000000 := Int.mul_le_mul (by omega) (by omega) (by omega) (by omega)
  have m4 : 0 ≤ absI av % 1000000 * (absI bv % 1000000) := Int.mul_nonneg (by omega) (by omega)
  have m5 : absI av % 1000000 * (absI bv % 1000000) ≤ 1000000 * 1000000 := Int.mul_le_mul (by omega) (by omega) (by omega) (by omega)
  have HR := Lib.hid hr; clear hr
  have HA := Lib.hid ha; have HO := Lib.hid hb; clear hb ha
  go_enter Tryd.func37, Tryd.ntmps37
  go_wp2_with fail
  refine (rodd_any false av _).mono ?_
  rw [HA.out]
  rintro e w1 ⟨rfl, hB1⟩
  have hc1 := hB1.cells; have hf1 := hB1.frees; have hz1 := hB1.size
  simp at hz1
  go_wp2_with fail
  refine (rodd_any false bv _).mono ?_
  rw [HO.out]
  rintro e w2 ⟨rfl, hB2⟩
  have hc2 := (hB1.trans hB2).cells; have hf2 := (hB1.trans hB2).frees; have hz2 := hB2.size
  go_wp2_with fail
  refine (rabs_any av _ (by omega) (by omega)).mono ?_
  rintro e w' ⟨rfl, rfl⟩
  go_wp2_with fail
  refine (rabs_any bv _ (by omega) (by omega)).mono ?_
  rintro e w' ⟨rfl, rfl⟩
  go_wp2_with fail
  refine (rfit_any _ _ HR.out).mono ?_
  rintro e w3 ⟨rfl, hB3⟩
  have hc3 := ((hB1.trans hB2).trans hB3).cells; have hf3 := ((hB1.trans hB2).trans hB3).frees; have hz3 := hB3.size
  go_wp2_with fail
  refine bodyPost_ret (v := .tuple #[.agg #[.bool r1, .int .i64 r2], .int .i64 r3]) (by simp [results, Tryd.results37, go_sem, hc3]) rfl ⟨rfl, ?_⟩
  repeat (first | exact Ext.refl _ | refine Ext.set ?_ (by dsimp only; omega) _ | refine Ext.alloc ?_ _ | refine Ext.drew ?_ | refine (Ext.trans ?_ (by assumption)))

theorem rmul_lowpp (av bv : Int) (w : World) (ha : oddB false av = false) (hb : oddB false bv = false) (sa : 0 ≤ av) (sb : 0 ≤ bv) (h0 : absI av / 1000000 ≤ 0) {r1 : Bool} {r2 r3 : Int} (hr : fitS (absI av / 1000000 * absI bv + absI av % 1000000 * (absI bv / 1000000) + absI av % 1000000 * (absI bv % 1000000) / 1000000) = ((r1, r2), r3)) : Calls Tryd.prog 37 #[.agg #[.bool false, .int .i64 av], .agg #[.bool false, .int .i64 bv]] w fun e w' => e = .returned (.tuple #[.agg #[.bool r1, .int .i64 r2], .int .i64 r3]) ∧ Ext w w' := by
  obtain ⟨_, a1, a2⟩ := oddB_false ha
  obtain ⟨_, b1, b2⟩ := oddB_false hb
  have da : decide (av < 0) = false := by simp; omega
  have db : decide (bv < 0) = false := by simp; omega
  have v1 := absI_nonneg av
  have v2 : absI av ≤ 1000000000000000 := by unfold absI; omega
  have v3 := absI_nonneg bv
  have v4 : absI bv ≤ 1000000000000000 := by unfold absI; omega
  have m1 : absI av / 1000000 * absI bv ≤ 1000000000000000 := by
    have e : absI av / 1000000 = 0 := by omega
    rw [e]; omega
  have m0 : 0 ≤ absI av / 1000000 * absI bv := Int.mul_nonneg (by omega) v3
  have m2 : 0 ≤ absI av % 1000000 * (absI bv / 1000000) := Int.mul_nonneg (by omega) (by omega)
  have m3 : absI av % 1000000 * (absI bv / 1000000) ≤ 1000000 * 1000000000 := Int.mul_le_mul (by omega) (by omega) (by omega) (by omega)
  have m4 : 0 ≤ absI av % 1000000 * (absI bv % 1000000) := Int.mul_nonneg (by omega) (by omega)
  have m5 : absI av % 1000000 * (absI bv % 1000000) ≤ 1000000 * 1000000 := Int.mul_le_mul (by omega) (by omega) (by omega) (by omega)
  have HR := Lib.hid hr; clear hr
  have HA := Lib.hid ha; have HO := Lib.hid hb; clear hb ha
  go_enter Tryd.func37, Tryd.ntmps37
  go_wp2_with fail
  refine (rodd_any false av _).mono ?_
  rw [HA.out]
  rintro e w1 ⟨rfl, hB1⟩
  have hc1 := hB1.cells; have hf1 := hB1.frees; have hz1 := hB1.size
  simp at hz1
  go_wp2_with fail
  refine (rodd_any false bv _).mono ?_
  rw [HO.out]
  rintro e w2 ⟨rfl, hB2⟩
  have hc2 := (hB1.trans hB2).cells; have hf2 := (hB1.trans hB2).frees; have hz2 := hB2.size
  go_wp2_with fail
  refine (rabs_any av _ (by omega) (by omega)).mono ?_
  rintro e w' ⟨rfl, rfl⟩
  go_wp2_with fail
  refine (rabs_any bv _ (by omega) (by omega)).mono ?_
  rintro e w' ⟨rfl, rfl⟩
  go_wp2_with fail
  refine (rfit_any _ _ HR.out).mono ?_
  rintro e w3 ⟨rfl, hB3⟩
  have hc3 := ((hB1.trans hB2).trans hB3).cells; have hf3 := ((hB1.trans hB2).trans hB3).frees; have hz3 := hB3.size
  go_wp2_with fail
  refine bodyPost_ret (v := .tuple #[.agg #[.bool r1, .int .i64 r2], .int .i64 r3]) (by simp [results, Tryd.results37, go_sem, hc3]) rfl ⟨rfl, ?_⟩
  repeat (first | exact Ext.refl _ | refine Ext.set ?_ (by dsimp only; omega) _ | refine Ext.alloc ?_ _ | refine Ext.drew ?_ | refine (Ext.trans ?_ (by assumption)))

theorem rmul_highpp (av bv : Int) (w : World) (ha : oddB false av = false) (hb : oddB false bv = false) (sa : 0 ≤ av) (sb : 0 ≤ bv) (h0 : 0 < absI av / 1000000) (hr0 : absI bv ≤ 1000000000000000 / (absI av / 1000000)) {r1 : Bool} {r2 r3 : Int} (hr : fitS (absI av / 1000000 * absI bv + absI av % 1000000 * (absI bv / 1000000) + absI av % 1000000 * (absI bv % 1000000) / 1000000) = ((r1, r2), r3)) : Calls Tryd.prog 37 #[.agg #[.bool false, .int .i64 av], .agg #[.bool false, .int .i64 bv]] w fun e w' => e = .returned (.tuple #[.agg #[.bool r1, .int .i64 r2], .int .i64 r3]) ∧ Ext w w' := by
  obtain ⟨_, a1, a2⟩ := oddB_false ha
  obtain ⟨_, b1, b2⟩ := oddB_false hb
  have da : decide (av < 0) = false := by simp; omega
  have db : decide (bv < 0) = false := by simp; omega
  have v1 := absI_nonneg av
  have v2 : absI av ≤ 1000000000000000 := by unfold absI; omega
  have v3 := absI_nonneg bv
  have v4 : absI bv ≤ 1000000000000000 := by unfold absI; omega
  have m1 : absI av / 1000000 * absI bv ≤ 1000000000000000 := mul_le_of_div _ _ _ h0 hr0
  have q0 : 0 ≤ 1000000000000000 / (absI av / 1000000) := Int.ediv_nonneg (by omega) (by omega)
  have q1 : 1000000000000000 / (absI av / 1000000) ≤ 1000000000000000 := Int.ediv_le_self _ (by omega)
  have m0 : 0 ≤ absI av / 1000000 * absI bv := Int.mul_nonneg (by omega) v3
  have m2 : 0 ≤ absI av % 1000000 * (absI bv / 1000000) := Int.mul_nonneg (by omega) (by omega)
  have m3 : absI av % 1000000 * (absI bv / 1000000) ≤ 1000000 * 1000000000 := Int.mul_le_mul (by omega) (by omega) (by omega) (by omega)
  have m4 : 0 ≤ absI av % 1000000 * (absI bv % 1000000) := Int.mul_nonneg (by omega) (by omega)
  have m5 : absI av % 1000000 * (absI bv % 1000000) ≤ 1000000 * 1000000 := Int.mul_le_mul (by omega) (by omega) (by omega) (by omega)
  have HR := Lib.hid hr; clear hr
  have HA := Lib.hid ha; have HO := Lib.hid hb; clear hb ha
  go_enter Tryd.func37, Tryd.ntmps37
  go_wp2_with fail
  refine (rodd_any false av _).mono ?_
  rw [HA.out]
  rintro e w1 ⟨rfl, hB1⟩
  have hc1 := hB1.cells; have hf1 := hB1.frees; have hz1 := hB1.size
  simp at hz1
  go_wp2_with fail
  refine (rodd_any false bv _).mono ?_
  rw [HO.out]
  rintro e w2 ⟨rfl, hB2⟩
  have hc2 := (hB1.trans hB2).cells; have hf2 := (hB1.trans hB2).frees; have hz2 := hB2.size
  go_wp2_with fail
  refine (rabs_any av _ (by omega) (by omega)).mono ?_
  rintro e w' ⟨rfl, rfl⟩
  go_wp2_with fail
  refine (rabs_any bv _ (by omega) (by omega)).mono ?_
  rintro e w' ⟨rfl, rfl⟩
  go_wp2_with fail
  refine (rfit_any _ _ HR.out).mono ?_
  rintro e w3 ⟨rfl, hB3⟩
  have hc3 := ((hB1.trans hB2).trans hB3).cells; have hf3 := ((hB1.trans hB2).trans hB3).frees; have hz3 := hB3.size
  go_wp2_with fail
  refine bodyPost_ret (v := .tuple #[.agg #[.bool r1, .int .i64 r2], .int .i64 r3]) (by simp [results, Tryd.results37, go_sem, hc3]) rfl ⟨rfl, ?_⟩
  repeat (first | exact Ext.refl _ | refine Ext.set ?_ (by dsimp only; omega) _ | refine Ext.alloc ?_ _ | refine Ext.drew ?_ | refine (Ext.trans ?_ (by assumption)))

theorem rmul_any (an bn : Bool) (av bv : Int) (w : World) : Calls Tryd.prog 37 #[.agg #[.bool an, .int .i64 av], .agg #[.bool bn, .int .i64 bv]] w fun e w' => e = .returned (.tuple #[.agg #[.bool (two an bn av bv (mulS av bv)).1.1, .int .i64 (two an bn av bv (mulS av bv)).1.2], .int .i64 (two an bn av bv (mulS av bv)).2]) ∧ Ext w w' := by
  by_cases h : oddB an av = true
  · rw [two, if_pos (by rw [h]; rfl)]; exact rmul_odd1 an bn av bv w h
  · have h1 : oddB an av = false := by simpa using h
    by_cases h' : oddB bn bv = true
    · rw [two, if_pos (by rw [h', h1]; rfl)]
      obtain ⟨rfl, _, _⟩ := oddB_false h1
      exact rmul_odd2 bn av bv w h1 h'
    · have h2 : oddB bn bv = false := by simpa using h'
      rw [two, if_neg (by rw [h1, h2]; decide)]
      obtain ⟨rfl, a1, a2⟩ := oddB_false h1
      obtain ⟨rfl, b1, b2⟩ := oddB_false h2
      have es := mul_sum av bv
      have v1 := absI_nonneg av
      by_cases h0 : 0 < absI av / 1000000
      · by_cases hr : 1000000000000000 / (absI av / 1000000) < absI bv
        · have e : mulS av bv = ((false, 0), 66) := by
            refine fitS_far _ _ ?_
            refine KDeci.mul_over _ _ ?_ ?_
            · unfold absI at h0; omega
            · unfold absI at hr
              have e2 : ((1000000000000000 / (av.natAbs / 1000000) : Nat) : Int) = 1000000000000000 / ((av.natAbs : Int) / 1000000) := by
                simp only [Int.natCast_ediv]; rfl
              omega
          rw [e]; exact rmul_range av bv w h1 h2 h0 hr
        · unfold mulS signed
          by_cases sa : av < 0
          · by_cases sb : bv < 0
            · rw [if_neg (by simp [sa, sb]), ← es]; exact rmul_highnn av bv w h1 h2 sa sb h0 (by omega) rfl
            · rw [if_pos (by simp [sa, sb]), ← es]; exact rmul_highnp av bv w h1 h2 sa (by omega) h0 (by omega) rfl
          · by_cases sb : bv < 0
            · rw [if_pos (by simp [sa, sb]), ← es]; exact rmul_highpn av bv w h1 h2 (by omega) sb h0 (by omega) rfl
            · rw [if_neg (by simp [sa, sb]), ← es]; exact rmul_highpp av bv w h1 h2 (by omega) (by omega) h0 (by omega) rfl
      · unfold mulS signed
        by_cases sa : av < 0
        · by_cases sb : bv < 0
          · rw [if_neg (by simp [sa, sb]), ← es]; exact rmul_lownn av bv w h1 h2 sa sb (by omega) rfl
          · rw [if_pos (by simp [sa, sb]), ← es]; exact rmul_lownp av bv w h1 h2 sa (by omega) (by omega) rfl
        · by_cases sb : bv < 0
          · rw [if_pos (by simp [sa, sb]), ← es]; exact rmul_lowpn av bv w h1 h2 (by omega) sb (by omega) rfl
          · rw [if_neg (by simp [sa, sb]), ← es]; exact rmul_lowpp av bv w h1 h2 (by omega) (by omega) (by omega) rfl

end Go.Proofs.YtcdpjgdaofgpcaaDoor
