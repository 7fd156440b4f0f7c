/-
  Contracts of package deci: Add, Neg, Sub, Less, Equal, Mod, Floor, Ceiling, Round. Helper lemmas; no statement of the seat is proved here.
-/
import Derived.Test.YtcdehcclkhmbiaaGreatDoorDeciA
import Derived.Outline
import Derived.Deep.QuietTactic
import Derived.BigQuiet
import Derived.Deep.RegionHeld3
namespace Go.Proofs.YtcdehcclkhmbiaaGreatDoor
open Go.RowKit
set_option maxRecDepth 100000

theorem add_odd (an bn : Bool) (av bv : Int) (w : World) (ho : (oddB an av || oddB bn bv) = true) :
    Calls Tryz.prog 72 #[.agg #[.bool an, .int .i64 av], .agg #[.bool bn, .int .i64 bv]] w fun e w' => e = .returned (.tuple #[.agg #[.bool true, .int .i64 0], .int .i64 0]) ∧ Ext w w' := by
  have HO := Lib.hid ho; clear ho
  go_enter Tryz.func72, Tryz.ntmps72
  go_wp2_with fail
  refine (odd2_any an bn av bv _ _ (by simp) (by simp [go_sem]) (by simp [go_sem]) (by simp [go_sem]) (by simp [go_sem])).mono ?_
  rw [HO.out]
  rintro e w1 ⟨rfl, hB⟩
  have hc := hB.cells; have hf := hB.frees; have hz := hB.size
  simp at hz
  go_wp2_with fail
  refine (nan_any _).mono ?_
  rintro e w2 ⟨rfl, hB2⟩
  have hc2 := hB2.cells; have hf2 := hB2.frees; have hz2 := hB2.size
  have l2 : w.heap.size + 1 + 1 < w1.heap.size := by omega
  have l2' : w.heap.size + 1 + 1 < w2.heap.size := by omega
  go_wp2_with fail
  refine bodyPost_ret (v := .tuple #[.agg #[.bool true, .int .i64 0], .int .i64 0]) (by simp [results, Tryz.results72, go_sem, hc, hc2, l2]) rfl ⟨rfl, ?_⟩
  repeat (first | exact Ext.refl _ | refine Ext.set ?_ (by dsimp only; omega) _ | refine Ext.alloc ?_ _ | refine Ext.drew ?_ | refine (Ext.trans ?_ (by assumption)))
theorem add_ok (av bv : Int) (w : World) (ho : (oddB false av || oddB false bv) = false) :
    Calls Tryz.prog 72 #[.agg #[.bool false, .int .i64 av], .agg #[.bool false, .int .i64 bv]] w fun e w' => e = .returned (.tuple #[.agg #[.bool (fitS (av + bv)).1.1, .int .i64 (fitS (av + bv)).1.2], .int .i64 (fitS (av + bv)).2]) ∧ Ext w w' := by
  rw [Bool.or_eq_false_iff] at ho
  obtain ⟨_, a1, a2⟩ := oddB_false ho.1
  obtain ⟨_, b1, b2⟩ := oddB_false ho.2
  have HO := Lib.hid ho; clear ho
  obtain ⟨⟨⟨r1, r2⟩, r3⟩, hr⟩ : ∃ r, fitS (av + bv) = r := ⟨_, rfl⟩
  rw [hr]
  have HR := Lib.hid hr; clear hr
  go_enter Tryz.func72, Tryz.ntmps72
  go_wp2_with fail
  refine (odd2_any false false av bv _ _ (by simp) (by simp [go_sem]) (by simp [go_sem]) (by simp [go_sem]) (by simp [go_sem])).mono ?_
  rw [HO.out.1, HO.out.2]
  rintro e w1 ⟨rfl, hB⟩
  have hc := hB.cells; have hf := hB.frees; have hz := hB.size
  simp at hz
  go_wp2_with fail
  refine (size_any (av + bv) _ (by omega) (by omega)).mono ?_
  rintro e w' ⟨rfl, rfl⟩
  go_wp2_with fail
  refine (made_res (absI (av + bv)) (decide (av + bv < 0)) _ (absI_nonneg _) (av + bv) (absI_sign _).symm HR.out).mono ?_
  rintro e w2 ⟨rfl, hB2⟩
  have hc2 := hB2.cells; have hf2 := hB2.frees; have hz2 := hB2.size
  have l2 : w.heap.size + 1 + 1 < w1.heap.size := by omega
  have l2' : w.heap.size + 1 + 1 < w2.heap.size := by omega
  go_wp2_with fail
  refine bodyPost_ret (v := .tuple #[.agg #[.bool r1, .int .i64 r2], .int .i64 r3]) (by simp [results, Tryz.results72, go_sem, hc, hc2, l2]) rfl ⟨rfl, ?_⟩
  repeat (first | exact Ext.refl _ | refine Ext.set ?_ (by dsimp only; omega) _ | refine Ext.alloc ?_ _ | refine Ext.drew ?_ | refine (Ext.trans ?_ (by assumption)))
def two (an bn : Bool) (av bv : Int) (r : Out) : Out := if (oddB an av || oddB bn bv) = true then noneS else r
def one (an : Bool) (av : Int) (r : Out) : Out := if oddB an av = true then noneS else r
theorem add_any (an bn : Bool) (av bv : Int) (w : World) :
    Calls Tryz.prog 72 #[.agg #[.bool an, .int .i64 av], .agg #[.bool bn, .int .i64 bv]] w fun e w' => e = .returned (.tuple #[.agg #[.bool (two an bn av bv (fitS (av + bv))).1.1, .int .i64 (two an bn av bv (fitS (av + bv))).1.2], .int .i64 (two an bn av bv (fitS (av + bv))).2]) ∧ Ext w w' := by
  by_cases h : (oddB an av || oddB bn bv) = true
  · rw [two, if_pos h]; exact add_odd an bn av bv w h
  · rw [two, if_neg h]
    have h' : (oddB an av || oddB bn bv) = false := by simpa using h
    have h2 := h'
    rw [Bool.or_eq_false_iff] at h2
    obtain ⟨rfl, _, _⟩ := oddB_false h2.1
    obtain ⟨rfl, _, _⟩ := oddB_false h2.2
    exact add_ok av bv w h'

theorem neg_odd (an : Bool) (av : Int) (w : World) (ho : oddB an av = true) :
    Calls Tryz.prog 78 #[.agg #[.bool an, .int .i64 av]] w fun e w' => e = .returned (.agg #[.bool true, .int .i64 0]) ∧ Ext w w' := by
  have HO := Lib.hid ho; clear ho
  go_enter Tryz.func78, Tryz.ntmps78
  go_wp2_with fail
  refine (odd1_any an av _ _ (by simp) (by simp [go_sem]) (by simp [go_sem])).mono ?_
  rw [HO.out]
  rintro e w1 ⟨rfl, hB⟩
  have hc := hB.cells; have hf := hB.frees; have hz := hB.size
  simp at hz
  go_wp2_with fail
  refine (nan_any _).mono ?_
  rintro e w2 ⟨rfl, hB2⟩
  have hc2 := hB2.cells; have hf2 := hB2.frees; have hz2 := hB2.size
  have l2 : w.heap.size + 1 < w1.heap.size := by omega
  have l2' : w.heap.size + 1 < w2.heap.size := by omega
  go_wp2_with fail
  refine bodyPost_ret (v := .agg #[.bool true, .int .i64 0]) (by simp [results, Tryz.results78, go_sem, hc, hc2, l2]) rfl ⟨rfl, ?_⟩
  repeat (first | exact Ext.refl _ | refine Ext.set ?_ (by dsimp only; omega) _ | refine Ext.alloc ?_ _ | refine Ext.drew ?_ | refine (Ext.trans ?_ (by assumption)))
theorem neg_ok (av : Int) (w : World) (ho : oddB false av = false) :
    Calls Tryz.prog 78 #[.agg #[.bool false, .int .i64 av]] w fun e w' => e = .returned (.agg #[.bool false, .int .i64 (-av)]) ∧ Ext w w' := by
  obtain ⟨_, a1, a2⟩ := oddB_false ho
  have HO := Lib.hid ho; clear ho
  go_enter Tryz.func78, Tryz.ntmps78
  go_wp2_with fail
  refine (odd1_any false av _ _ (by simp) (by simp [go_sem]) (by simp [go_sem])).mono ?_
  rw [HO.out]
  rintro e w1 ⟨rfl, hB⟩
  have hc := hB.cells; have hf := hB.frees; have hz := hB.size
  simp at hz
  go_wp2_with fail
  refine bodyPost_ret (v := .agg #[.bool false, .int .i64 (-av)]) (by simp [results, Tryz.results78, go_sem, hc]) rfl ⟨rfl, ?_⟩
  repeat (first | exact Ext.refl _ | refine Ext.set ?_ (by dsimp only; omega) _ | refine Ext.alloc ?_ _ | refine Ext.drew ?_ | refine (Ext.trans ?_ (by assumption)))
def negS (an : Bool) (av : Int) : Bool × Int := if oddB an av = true then (true, 0) else (false, -av)
theorem neg_any (an : Bool) (av : Int) (w : World) :
    Calls Tryz.prog 78 #[.agg #[.bool an, .int .i64 av]] w fun e w' => e = .returned (.agg #[.bool (negS an av).1, .int .i64 (negS an av).2]) ∧ Ext w w' := by
  by_cases h : oddB an av = true
  · rw [negS, if_pos h]; exact neg_odd an av w h
  · rw [negS, if_neg h]
    have h' : oddB an av = false := by simpa using h
    obtain ⟨rfl, _, _⟩ := oddB_false h'
    exact neg_ok av w h'
end Go.Proofs.YtcdehcclkhmbiaaGreatDoor
