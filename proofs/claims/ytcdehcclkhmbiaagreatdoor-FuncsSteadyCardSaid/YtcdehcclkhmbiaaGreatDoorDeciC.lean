/-
  Contracts of package deci: Sub, Less, Equal, Mod, Floor, Round, Ceiling. Helper lemmas; no statement of the seat is proved here.
-/
import Derived.Test.YtcdehcclkhmbiaaGreatDoorDeciB
namespace Go.Proofs.YtcdehcclkhmbiaaGreatDoor
open Go.RowKit
set_option maxRecDepth 100000

theorem two_sub (an bn : Bool) (av bv : Int) (nn : Bool) (nv : Int) (hn : negS bn bv = (nn, nv)) : two an bn av bv (fitS (av - bv)) = two an nn av nv (fitS (av + nv)) := by
  unfold negS at hn
  by_cases h : oddB bn bv = true
  · rw [if_pos h] at hn
    injection hn with h1 h2
    subst h1; subst h2
    simp [two, h, oddB_nan]
  · rw [if_neg h] at hn
    injection hn with h1 h2
    subst h1; subst h2
    have h' : oddB bn bv = false := by simpa using h
    obtain ⟨rfl, b1, b2⟩ := oddB_false h'
    have h3 : oddB false (-bv) = false := oddB_no _ (by omega) (by omega)
    have e : av + -bv = av - bv := by omega
    simp [two, h', h3, e]

theorem less_odd (an bn : Bool) (av bv : Int) (w : World) (ho : (oddB an av || oddB bn bv) = true) :
    Calls Tryz.prog 14 #[.agg #[.bool an, .int .i64 av], .agg #[.bool bn, .int .i64 bv]] w fun e w' => e = .returned (.bool false) ∧ Ext w w' := by
  have HO := Lib.hid ho; clear ho
  go_enter Tryz.func14, Tryz.ntmps14
  go_wp2_with fail
  refine (odd2_any an bn av bv _ _ (by simp) (by simp [go_sem]) (by simp [go_sem]) (by simp [go_sem]) (by simp [go_sem])).mono ?_
  rw [HO.out]
  rintro e w1 ⟨rfl, hB⟩
  have hc := hB.cells; have hf := hB.frees; have hz := hB.size
  simp at hz
  go_wp2_with fail
  go_ret
  refine ⟨rfl, ?_⟩
  repeat (first | exact Ext.refl _ | refine Ext.set ?_ (by dsimp only; omega) _ | refine Ext.alloc ?_ _ | refine Ext.drew ?_ | refine (Ext.trans ?_ (by assumption)))
theorem less_ok (av bv : Int) (w : World) (ho : (oddB false av || oddB false bv) = false) :
    Calls Tryz.prog 14 #[.agg #[.bool false, .int .i64 av], .agg #[.bool false, .int .i64 bv]] w fun e w' => e = .returned (.bool (decide (av < bv))) ∧ Ext w w' := by
  have HO := Lib.hid ho; clear ho
  go_enter Tryz.func14, Tryz.ntmps14
  go_wp2_with fail
  refine (odd2_any false false av bv _ _ (by simp) (by simp [go_sem]) (by simp [go_sem]) (by simp [go_sem]) (by simp [go_sem])).mono ?_
  rw [HO.out]
  rintro e w1 ⟨rfl, hB⟩
  have hc := hB.cells; have hf := hB.frees; have hz := hB.size
  simp at hz
  go_wp2_with fail
  go_ret
  refine ⟨rfl, ?_⟩
  repeat (first | exact Ext.refl _ | refine Ext.set ?_ (by dsimp only; omega) _ | refine Ext.alloc ?_ _ | refine Ext.drew ?_ | refine (Ext.trans ?_ (by assumption)))
def lessS (an bn : Bool) (av bv : Int) : Bool := !(oddB an av || oddB bn bv) && decide (av < bv)
theorem less_any (an bn : Bool) (av bv : Int) (w : World) :
    Calls Tryz.prog 14 #[.agg #[.bool an, .int .i64 av], .agg #[.bool bn, .int .i64 bv]] w fun e w' => e = .returned (.bool (lessS an bn av bv)) ∧ Ext w w' := by
  by_cases h : (oddB an av || oddB bn bv) = true
  · rw [lessS, h]; exact less_odd an bn av bv w h
  · have h' : (oddB an av || oddB bn bv) = false := by simpa using h
    rw [lessS, h']
    have h2 := h'
    rw [Bool.or_eq_false_iff] at h2
    obtain ⟨rfl, _, _⟩ := oddB_false h2.1
    obtain ⟨rfl, _, _⟩ := oddB_false h2.2
    exact less_ok av bv w h'
def equalS (an bn : Bool) (av bv : Int) : Bool := !(oddB an av || oddB bn bv) && decide (av = bv)
def modS (av bv : Int) : Out := if bv = 0 then ((false, 0), 67) else ((false, av.tmod bv), 0)
theorem tmod_neg (v : Int) (h : v < 0) : v.tmod 1000000 = -((-v) % 1000000) := by
  have e : v = -(-v) := by omega
  rw [e, Int.neg_tmod, Int.tmod_eq_emod_of_nonneg (by omega)]
  simp
def floorV (v : Int) : Int := v - v % 1000000
theorem floor_odd (an : Bool) (av : Int) (w : World) (ho : oddB an av = true) :
    Calls Tryz.prog 31 #[.agg #[.bool an, .int .i64 av]] w fun e w' => e = .returned (.tuple #[.agg #[.bool true, .int .i64 0], .int .i64 0]) ∧ Ext w w' := by
  have HO := Lib.hid ho; clear ho
  go_enter Tryz.func31, Tryz.ntmps31
  go_wp2_with fail
  refine (odd1_any an av _ _ (by simp) (by simp [go_sem]) (by simp [go_sem])).mono ?_
  rw [HO.out]
  rintro e w1 ⟨rfl, hB⟩
  have hc := hB.cells; have hf := hB.frees; have hz := hB.size
  simp at hz
  go_wp2_with fail
  refine (nan_any _).mono ?_
  rintro e w2 ⟨rfl, hB2⟩
  have hc2 := hB2.cells; have hf2 := hB2.frees; have hz2 := hB2.size
  have l2 : w.heap.size + 1 < w1.heap.size := by omega
  have l2' : w.heap.size + 1 < w2.heap.size := by omega
  go_wp2_with fail
  refine bodyPost_ret (v := .tuple #[.agg #[.bool true, .int .i64 0], .int .i64 0]) (by simp [results, Tryz.results31, go_sem, hc, hc2, l2]) rfl ⟨rfl, ?_⟩
  repeat (first | exact Ext.refl _ | refine Ext.set ?_ (by dsimp only; omega) _ | refine Ext.alloc ?_ _ | refine Ext.drew ?_ | refine (Ext.trans ?_ (by assumption)))
theorem floor_pos (av : Int) (w : World) (ho : oddB false av = false) (hn : 0 ≤ av) :
    Calls Tryz.prog 31 #[.agg #[.bool false, .int .i64 av]] w fun e w' => e = .returned (.tuple #[.agg #[.bool (fitS (floorV (av))).1.1, .int .i64 (fitS (floorV (av))).1.2], .int .i64 (fitS (floorV (av))).2]) ∧ Ext w w' := by
  obtain ⟨_, a1, a2⟩ := oddB_false ho
  obtain ⟨⟨⟨r1, r2⟩, r3⟩, hr⟩ : ∃ r, fitS (floorV (av)) = r := ⟨_, rfl⟩
  rw [hr]
  have hr' : fitS (av - (av) % 1000000) = ((r1, r2), r3) := hr
  have HR := Lib.hid hr'; clear hr hr'
  have HO := Lib.hid ho; clear ho
  go_enter Tryz.func31, Tryz.ntmps31
  go_wp2_with fail
  refine (odd1_any false av _ _ (by simp) (by simp [go_sem]) (by simp [go_sem])).mono ?_
  rw [HO.out]
  rintro e w1 ⟨rfl, hB⟩
  have hc := hB.cells; have hf := hB.frees; have hz := hB.size
  simp at hz
  go_wp2_with fail
  refine (size_any _ _ (by omega) (by omega)).mono ?_
  rintro e w' ⟨rfl, rfl⟩
  go_wp2_with fail
  refine (made_res _ _ _ (absI_nonneg _) _ (absI_sign _).symm HR.out).mono ?_
  rintro e w2 ⟨rfl, hB2⟩
  have hc2 := hB2.cells; have hf2 := hB2.frees; have hz2 := hB2.size
  have l2 : w.heap.size + 1 < w1.heap.size := by omega
  have l2' : w.heap.size + 1 < w2.heap.size := by omega
  go_wp2_with fail
  refine bodyPost_ret (v := .tuple #[.agg #[.bool r1, .int .i64 r2], .int .i64 r3]) (by simp [results, Tryz.results31, go_sem, hc, hc2, l2]) rfl ⟨rfl, ?_⟩
  repeat (first | exact Ext.refl _ | refine Ext.set ?_ (by dsimp only; omega) _ | refine Ext.alloc ?_ _ | refine Ext.drew ?_ | refine (Ext.trans ?_ (by assumption)))
theorem floor_neg (av : Int) (w : World) (ho : oddB false av = false) (hn : av < 0) (hm : (av).tmod 1000000 < 0) :
    Calls Tryz.prog 31 #[.agg #[.bool false, .int .i64 av]] w fun e w' => e = .returned (.tuple #[.agg #[.bool (fitS (floorV (av))).1.1, .int .i64 (fitS (floorV (av))).1.2], .int .i64 (fitS (floorV (av))).2]) ∧ Ext w w' := by
  obtain ⟨_, a1, a2⟩ := oddB_false ho
  obtain ⟨⟨⟨r1, r2⟩, r3⟩, hr⟩ : ∃ r, fitS (floorV (av)) = r := ⟨_, rfl⟩
  rw [hr]
  have ht := tmod_neg (av) hn
  have t1 : -1000000 < (av).tmod 1000000 := by omega
  have hr' : fitS (av - ((av).tmod 1000000 + 1000000)) = ((r1, r2), r3) := by rw [← hr]; unfold floorV; congr 1; omega
  have HR := Lib.hid hr'; clear hr hr' ht
  have HO := Lib.hid ho; clear ho
  go_enter Tryz.func31, Tryz.ntmps31
  go_wp2_with fail
  refine (odd1_any false av _ _ (by simp) (by simp [go_sem]) (by simp [go_sem])).mono ?_
  rw [HO.out]
  rintro e w1 ⟨rfl, hB⟩
  have hc := hB.cells; have hf := hB.frees; have hz := hB.size
  simp at hz
  go_wp2_with fail
  refine (size_any _ _ (by omega) (by omega)).mono ?_
  rintro e w' ⟨rfl, rfl⟩
  go_wp2_with fail
  refine (made_res _ _ _ (absI_nonneg _) _ (absI_sign _).symm HR.out).mono ?_
  rintro e w2 ⟨rfl, hB2⟩
  have hc2 := hB2.cells; have hf2 := hB2.frees; have hz2 := hB2.size
  have l2 : w.heap.size + 1 < w1.heap.size := by omega
  have l2' : w.heap.size + 1 < w2.heap.size := by omega
  go_wp2_with fail
  refine bodyPost_ret (v := .tuple #[.agg #[.bool r1, .int .i64 r2], .int .i64 r3]) (by simp [results, Tryz.results31, go_sem, hc, hc2, l2]) rfl ⟨rfl, ?_⟩
  repeat (first | exact Ext.refl _ | refine Ext.set ?_ (by dsimp only; omega) _ | refine Ext.alloc ?_ _ | refine Ext.drew ?_ | refine (Ext.trans ?_ (by assumption)))
theorem floor_whole (av : Int) (w : World) (ho : oddB false av = false) (hn : av < 0) (hm : 0 ≤ (av).tmod 1000000) :
    Calls Tryz.prog 31 #[.agg #[.bool false, .int .i64 av]] w fun e w' => e = .returned (.tuple #[.agg #[.bool (fitS (floorV (av))).1.1, .int .i64 (fitS (floorV (av))).1.2], .int .i64 (fitS (floorV (av))).2]) ∧ Ext w w' := by
  obtain ⟨_, a1, a2⟩ := oddB_false ho
  obtain ⟨⟨⟨r1, r2⟩, r3⟩, hr⟩ : ∃ r, fitS (floorV (av)) = r := ⟨_, rfl⟩
  rw [hr]
  have ht := tmod_neg (av) hn
  have t1 : (av).tmod 1000000 ≤ 0 := by omega
  have hr' : fitS (av - (av).tmod 1000000) = ((r1, r2), r3) := by rw [← hr]; unfold floorV; congr 1; omega
  have HR := Lib.hid hr'; clear hr hr' ht
  have HO := Lib.hid ho; clear ho
  go_enter Tryz.func31, Tryz.ntmps31
  go_wp2_with fail
  refine (odd1_any false av _ _ (by simp) (by simp [go_sem]) (by simp [go_sem])).mono ?_
  rw [HO.out]
  rintro e w1 ⟨rfl, hB⟩
  have hc := hB.cells; have hf := hB.frees; have hz := hB.size
  simp at hz
  go_wp2_with fail
  refine (size_any _ _ (by omega) (by omega)).mono ?_
  rintro e w' ⟨rfl, rfl⟩
  go_wp2_with fail
  refine (made_res _ _ _ (absI_nonneg _) _ (absI_sign _).symm HR.out).mono ?_
  rintro e w2 ⟨rfl, hB2⟩
  have hc2 := hB2.cells; have hf2 := hB2.frees; have hz2 := hB2.size
  have l2 : w.heap.size + 1 < w1.heap.size := by omega
  have l2' : w.heap.size + 1 < w2.heap.size := by omega
  go_wp2_with fail
  refine bodyPost_ret (v := .tuple #[.agg #[.bool r1, .int .i64 r2], .int .i64 r3]) (by simp [results, Tryz.results31, go_sem, hc, hc2, l2]) rfl ⟨rfl, ?_⟩
  repeat (first | exact Ext.refl _ | refine Ext.set ?_ (by dsimp only; omega) _ | refine Ext.alloc ?_ _ | refine Ext.drew ?_ | refine (Ext.trans ?_ (by assumption)))
theorem floor_any (an : Bool) (av : Int) (w : World) :
    Calls Tryz.prog 31 #[.agg #[.bool an, .int .i64 av]] w fun e w' => e = .returned (.tuple #[.agg #[.bool (one an av (fitS (floorV (av)))).1.1, .int .i64 (one an av (fitS (floorV (av)))).1.2], .int .i64 (one an av (fitS (floorV (av)))).2]) ∧ Ext w w' := by
  by_cases h : oddB an av = true
  · rw [one, if_pos h]; exact floor_odd an av w h
  · rw [one, if_neg h]
    have h' : oddB an av = false := by simpa using h
    obtain ⟨rfl, _, _⟩ := oddB_false h'
    by_cases hn : 0 ≤ av
    · exact floor_pos av w h' hn
    · by_cases hm : (av).tmod 1000000 < 0
      · exact floor_neg av w h' (by omega) hm
      · exact floor_whole av w h' (by omega) (by omega)
theorem round_odd (an : Bool) (av : Int) (w : World) (ho : oddB an av = true) :
    Calls Tryz.prog 33 #[.agg #[.bool an, .int .i64 av]] w fun e w' => e = .returned (.tuple #[.agg #[.bool true, .int .i64 0], .int .i64 0]) ∧ Ext w w' := by
  have HO := Lib.hid ho; clear ho
  go_enter Tryz.func33, Tryz.ntmps33
  go_wp2_with fail
  refine (odd1_any an av _ _ (by simp) (by simp [go_sem]) (by simp [go_sem])).mono ?_
  rw [HO.out]
  rintro e w1 ⟨rfl, hB⟩
  have hc := hB.cells; have hf := hB.frees; have hz := hB.size
  simp at hz
  go_wp2_with fail
  refine (nan_any _).mono ?_
  rintro e w2 ⟨rfl, hB2⟩
  have hc2 := hB2.cells; have hf2 := hB2.frees; have hz2 := hB2.size
  have l2 : w.heap.size + 1 < w1.heap.size := by omega
  have l2' : w.heap.size + 1 < w2.heap.size := by omega
  go_wp2_with fail
  refine bodyPost_ret (v := .tuple #[.agg #[.bool true, .int .i64 0], .int .i64 0]) (by simp [results, Tryz.results33, go_sem, hc, hc2, l2]) rfl ⟨rfl, ?_⟩
  repeat (first | exact Ext.refl _ | refine Ext.set ?_ (by dsimp only; omega) _ | refine Ext.alloc ?_ _ | refine Ext.drew ?_ | refine (Ext.trans ?_ (by assumption)))
theorem round_pos (av : Int) (w : World) (ho : oddB false av = false) (hn : 0 ≤ av + 500000) :
    Calls Tryz.prog 33 #[.agg #[.bool false, .int .i64 av]] w fun e w' => e = .returned (.tuple #[.agg #[.bool (fitS (floorV (av + 500000))).1.1, .int .i64 (fitS (floorV (av + 500000))).1.2], .int .i64 (fitS (floorV (av + 500000))).2]) ∧ Ext w w' := by
  obtain ⟨_, a1, a2⟩ := oddB_false ho
  obtain ⟨⟨⟨r1, r2⟩, r3⟩, hr⟩ : ∃ r, fitS (floorV (av + 500000)) = r := ⟨_, rfl⟩
  rw [hr]
  have hr' : fitS (av + 500000 - (av + 500000) % 1000000) = ((r1, r2), r3) := hr
  have HR := Lib.hid hr'; clear hr hr'
  have HO := Lib.hid ho; clear ho
  go_enter Tryz.func33, Tryz.ntmps33
  go_wp2_with fail
  refine (odd1_any false av _ _ (by simp) (by simp [go_sem]) (by simp [go_sem])).mono ?_
  rw [HO.out]
  rintro e w1 ⟨rfl, hB⟩
  have hc := hB.cells; have hf := hB.frees; have hz := hB.size
  simp at hz
  go_wp2_with fail
  refine (size_any _ _ (by omega) (by omega)).mono ?_
  rintro e w' ⟨rfl, rfl⟩
  go_wp2_with fail
  refine (made_res _ _ _ (absI_nonneg _) _ (absI_sign _).symm HR.out).mono ?_
  rintro e w2 ⟨rfl, hB2⟩
  have hc2 := hB2.cells; have hf2 := hB2.frees; have hz2 := hB2.size
  have l2 : w.heap.size + 1 < w1.heap.size := by omega
  have l2' : w.heap.size + 1 < w2.heap.size := by omega
  go_wp2_with fail
  refine bodyPost_ret (v := .tuple #[.agg #[.bool r1, .int .i64 r2], .int .i64 r3]) (by simp [results, Tryz.results33, go_sem, hc, hc2, l2]) rfl ⟨rfl, ?_⟩
  repeat (first | exact Ext.refl _ | refine Ext.set ?_ (by dsimp only; omega) _ | refine Ext.alloc ?_ _ | refine Ext.drew ?_ | refine (Ext.trans ?_ (by assumption)))
theorem round_neg (av : Int) (w : World) (ho : oddB false av = false) (hn : av + 500000 < 0) (hm : (av + 500000).tmod 1000000 < 0) :
    Calls Tryz.prog 33 #[.agg #[.bool false, .int .i64 av]] w fun e w' => e = .returned (.tuple #[.agg #[.bool (fitS (floorV (av + 500000))).1.1, .int .i64 (fitS (floorV (av + 500000))).1.2], .int .i64 (fitS (floorV (av + 500000))).2]) ∧ Ext w w' := by
  obtain ⟨_, a1, a2⟩ := oddB_false ho
  obtain ⟨⟨⟨r1, r2⟩, r3⟩, hr⟩ : ∃ r, fitS (floorV (av + 500000)) = r := ⟨_, rfl⟩
  rw [hr]
  have ht := tmod_neg (av + 500000) hn
  have t1 : -1000000 < (av + 500000).tmod 1000000 := by omega
  have hr' : fitS (av + 500000 - ((av + 500000).tmod 1000000 + 1000000)) = ((r1, r2), r3) := by rw [← hr]; unfold floorV; congr 1; omega
  have HR := Lib.hid hr'; clear hr hr' ht
  have HO := Lib.hid ho; clear ho
  go_enter Tryz.func33, Tryz.ntmps33
  go_wp2_with fail
  refine (odd1_any false av _ _ (by simp) (by simp [go_sem]) (by simp [go_sem])).mono ?_
  rw [HO.out]
  rintro e w1 ⟨rfl, hB⟩
  have hc := hB.cells; have hf := hB.frees; have hz := hB.size
  simp at hz
  go_wp2_with fail
  refine (size_any _ _ (by omega) (by omega)).mono ?_
  rintro e w' ⟨rfl, rfl⟩
  go_wp2_with fail
  refine (made_res _ _ _ (absI_nonneg _) _ (absI_sign _).symm HR.out).mono ?_
  rintro e w2 ⟨rfl, hB2⟩
  have hc2 := hB2.cells; have hf2 := hB2.frees; have hz2 := hB2.size
  have l2 : w.heap.size + 1 < w1.heap.size := by omega
  have l2' : w.heap.size + 1 < w2.heap.size := by omega
  go_wp2_with fail
  refine bodyPost_ret (v := .tuple #[.agg #[.bool r1, .int .i64 r2], .int .i64 r3]) (by simp [results, Tryz.results33, go_sem, hc, hc2, l2]) rfl ⟨rfl, ?_⟩
  repeat (first | exact Ext.refl _ | refine Ext.set ?_ (by dsimp only; omega) _ | refine Ext.alloc ?_ _ | refine Ext.drew ?_ | refine (Ext.trans ?_ (by assumption)))
theorem round_whole (av : Int) (w : World) (ho : oddB false av = false) (hn : av + 500000 < 0) (hm : 0 ≤ (av + 500000).tmod 1000000) :
    Calls Tryz.prog 33 #[.agg #[.bool false, .int .i64 av]] w fun e w' => e = .returned (.tuple #[.agg #[.bool (fitS (floorV (av + 500000))).1.1, .int .i64 (fitS (floorV (av + 500000))).1.2], .int .i64 (fitS (floorV (av + 500000))).2]) ∧ Ext w w' := by
  obtain ⟨_, a1, a2⟩ := oddB_false ho
  obtain ⟨⟨⟨r1, r2⟩, r3⟩, hr⟩ : ∃ r, fitS (floorV (av + 500000)) = r := ⟨_, rfl⟩
  rw [hr]
  have ht := tmod_neg (av + 500000) hn
  have t1 : (av + 500000).tmod 1000000 ≤ 0 := by omega
  have hr' : fitS (av + 500000 - (av + 500000).tmod 1000000) = ((r1, r2), r3) := by rw [← hr]; unfold floorV; congr 1; omega
  have HR := Lib.hid hr'; clear hr hr' ht
  have HO := Lib.hid ho; clear ho
  go_enter Tryz.func33, Tryz.ntmps33
  go_wp2_with fail
  refine (odd1_any false av _ _ (by simp) (by simp [go_sem]) (by simp [go_sem])).mono ?_
  rw [HO.out]
  rintro e w1 ⟨rfl, hB⟩
  have hc := hB.cells; have hf := hB.frees; have hz := hB.size
  simp at hz
  go_wp2_with fail
  refine (size_any _ _ (by omega) (by omega)).mono ?_
  rintro e w' ⟨rfl, rfl⟩
  go_wp2_with fail
  refine (made_res _ _ _ (absI_nonneg _) _ (absI_sign _).symm HR.out).mono ?_
  rintro e w2 ⟨rfl, hB2⟩
  have hc2 := hB2.cells; have hf2 := hB2.frees; have hz2 := hB2.size
  have l2 : w.heap.size + 1 < w1.heap.size := by omega
  have l2' : w.heap.size + 1 < w2.heap.size := by omega
  go_wp2_with fail
  refine bodyPost_ret (v := .tuple #[.agg #[.bool r1, .int .i64 r2], .int .i64 r3]) (by simp [results, Tryz.results33, go_sem, hc, hc2, l2]) rfl ⟨rfl, ?_⟩
  repeat (first | exact Ext.refl _ | refine Ext.set ?_ (by dsimp only; omega) _ | refine Ext.alloc ?_ _ | refine Ext.drew ?_ | refine (Ext.trans ?_ (by assumption)))
theorem round_any (an : Bool) (av : Int) (w : World) :
    Calls Tryz.prog 33 #[.agg #[.bool an, .int .i64 av]] w fun e w' => e = .returned (.tuple #[.agg #[.bool (one an av (fitS (floorV (av + 500000)))).1.1, .int .i64 (one an av (fitS (floorV (av + 500000)))).1.2], .int .i64 (one an av (fitS (floorV (av + 500000)))).2]) ∧ Ext w w' := by
  by_cases h : oddB an av = true
  · rw [one, if_pos h]; exact round_odd an av w h
  · rw [one, if_neg h]
    have h' : oddB an av = false := by simpa using h
    obtain ⟨rfl, _, _⟩ := oddB_false h'
    by_cases hn : 0 ≤ av + 500000
    · exact round_pos av w h' hn
    · by_cases hm : (av + 500000).tmod 1000000 < 0
      · exact round_neg av w h' (by omega) hm
      · exact round_whole av w h' (by omega) (by omega)
def ceilV (v : Int) : Int := -(floorV (-v))
def ceilS (an : Bool) (av : Int) : Out := one an av (fitS (ceilV av))
theorem ceil_go (an : Bool) (av : Int) (w : World) (n1 : Bool) (n2 : Int) (hn : negS an av = (n1, n2)) (r1 : Bool) (r2 : Int) (hr : one n1 n2 (fitS (floorV n2)) = ((r1, r2), 0)) :
    Calls Tryz.prog 32 #[.agg #[.bool an, .int .i64 av]] w fun e w' => e = .returned (.tuple #[.agg #[.bool (negS r1 r2).1, .int .i64 (negS r1 r2).2], .int .i64 0]) ∧ Ext w w' := by
  obtain ⟨⟨s1, s2⟩, hs⟩ : ∃ r, negS r1 r2 = r := ⟨_, rfl⟩
  rw [hs]
  have HN := Lib.hid hn; have HR := Lib.hid hr; have HS := Lib.hid hs; clear hn hr hs
  go_enter Tryz.func32, Tryz.ntmps32
  go_wp2_with fail
  refine (neg_any an av _).mono ?_
  rw [HN.out]
  rintro e w1 ⟨rfl, hB⟩
  have hc := hB.cells; have hf := hB.frees; have hz := hB.size
  simp at hz
  go_wp2_with fail
  refine (floor_any n1 n2 _).mono ?_
  rw [HR.out]
  rintro e w2 ⟨rfl, hB2⟩
  have hc2 := (hB.trans hB2).cells; have hf2 := (hB.trans hB2).frees; have hz2 := hB2.size
  have l2 : w.heap.size + 1 < w2.heap.size := by omega
  go_wp2_with fail
  refine (neg_any r1 r2 _).mono ?_
  rw [HS.out]
  rintro e w3 ⟨rfl, hB3⟩
  have hc3 := hB3.cells; have hf3 := hB3.frees; have hz3 := hB3.size
  simp at hz3
  have l3 : w.heap.size + 1 < w3.heap.size := by omega
  have l4 : w.heap.size + 1 < w2.heap.size + 1 := by omega
  have l5 : ¬ w.heap.size + 1 = w2.heap.size := by omega
  go_wp2_with fail
  refine bodyPost_ret (v := .tuple #[.agg #[.bool s1, .int .i64 s2], .int .i64 0]) (by simp [results, Tryz.results32, go_sem, hc3, hc2, l2, l4]) rfl ⟨rfl, ?_⟩
  repeat (first | exact Ext.refl _ | refine Ext.set ?_ (by dsimp only; omega) _ | refine Ext.alloc ?_ _ | refine Ext.drew ?_ | refine (Ext.trans ?_ (by assumption)))
theorem ceil_over (an : Bool) (av : Int) (w : World) (n1 : Bool) (n2 : Int) (hn : negS an av = (n1, n2)) (hr : one n1 n2 (fitS (floorV n2)) = ((false, 0), 66)) :
    Calls Tryz.prog 32 #[.agg #[.bool an, .int .i64 av]] w fun e w' => e = .returned (.tuple #[.agg #[.bool false, .int .i64 0], .int .i64 66]) ∧ Ext w w' := by
  have HN := Lib.hid hn; have HR := Lib.hid hr; clear hn hr
  go_enter Tryz.func32, Tryz.ntmps32
  go_wp2_with fail
  refine (neg_any an av _).mono ?_
  rw [HN.out]
  rintro e w1 ⟨rfl, hB⟩
  have hc := hB.cells; have hf := hB.frees; have hz := hB.size
  simp at hz
  go_wp2_with fail
  refine (floor_any n1 n2 _).mono ?_
  rw [HR.out]
  rintro e w2 ⟨rfl, hB2⟩
  have hc2 := (hB.trans hB2).cells; have hf2 := (hB.trans hB2).frees; have hz2 := hB2.size
  have l2 : w.heap.size + 1 < w2.heap.size := by omega
  have l4 : w.heap.size + 1 < w2.heap.size + 1 := by omega
  have l5 : ¬ w.heap.size + 1 = w2.heap.size := by omega
  go_wp2_with fail
  refine bodyPost_ret (v := .tuple #[.agg #[.bool false, .int .i64 0], .int .i64 66]) (by simp [results, Tryz.results32, go_sem, hc2, l2]) rfl ⟨rfl, ?_⟩
  repeat (first | exact Ext.refl _ | refine Ext.set ?_ (by dsimp only; omega) _ | refine Ext.alloc ?_ _ | refine Ext.drew ?_ | refine (Ext.trans ?_ (by assumption)))
theorem floorV_le (v : Int) : floorV v ≤ v ∧ v < floorV v + 1000000 := by unfold floorV; omega
theorem ceil_any (an : Bool) (av : Int) (w : World) :
    Calls Tryz.prog 32 #[.agg #[.bool an, .int .i64 av]] w fun e w' => e = .returned (.tuple #[.agg #[.bool (ceilS an av).1.1, .int .i64 (ceilS an av).1.2], .int .i64 (ceilS an av).2]) ∧ Ext w w' := by
  by_cases h : oddB an av = true
  · have e : ceilS an av = ((true, 0), 0) := by rw [ceilS, one, if_pos h]; rfl
    rw [e]
    exact ceil_go an av w true 0 (by rw [negS, if_pos h]) true 0 (by rw [one, if_pos (oddB_nan _)]; rfl)
  · have h' : oddB an av = false := by simpa using h
    obtain ⟨rfl, a1, a2⟩ := oddB_false h'
    have hn : negS false av = (false, -av) := by rw [negS, if_neg h]
    have ho : oddB false (-av) = false := oddB_no _ (by omega) (by omega)
    have ho' : ¬ oddB false (-av) = true := by rw [ho]; decide
    by_cases hi : floorV (-av) < -1000000000000000
    · have e : ceilS false av = ((false, 0), 66) := by rw [ceilS, one, if_neg h]; exact fitS_hi (by unfold ceilV; omega)
      rw [e]
      exact ceil_over false av w false (-av) hn (by rw [one, if_neg ho']; exact fitS_lo hi)
    · have := floorV_le (-av)
      have e : ceilS false av = ((false, -(floorV (-av))), 0) := by rw [ceilS, one, if_neg h]; exact fitS_in (by unfold ceilV; omega) (by unfold ceilV; omega)
      rw [e]
      have hf : oddB false (floorV (-av)) = false := oddB_no _ (by omega) (by omega)
      have hk := ceil_go false av w false (-av) hn false (floorV (-av)) (by rw [one, if_neg ho']; exact fitS_in (by omega) (by omega))
      have e2 : negS false (floorV (-av)) = (false, -(floorV (-av))) := by rw [negS, if_neg (by rw [hf]; decide)]
      rw [e2] at hk
      exact hk
end Go.Proofs.YtcdehcclkhmbiaaGreatDoor
