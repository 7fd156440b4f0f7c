/-
  Contracts of the reference of layer 3, second part: Of, Floor, Ceiling, Round, Less, Equal, Mul, Div. Helper lemmas; no statement of the seat is proved here.
-/
import Derived.Test.YtcdpjgdaofgpcaaDoorRef3
import Derived.LoopTactic
namespace Go.Proofs.YtcdpjgdaofgpcaaDoor
open Go.RowKit
set_option maxRecDepth 100000
set_option linter.unusedVariables false

theorem rof_hi (n : Int) (w : World) (h : 1000000000 < n) : Calls Tryd.prog 47 #[.int .i64 n] w fun e w' => e = .returned (.tuple #[.agg #[.bool false, .int .i64 0], .int .i64 66]) ∧ Ext w w' := by
  go_enter Tryd.func47, Tryd.ntmps47
  go_wp2_with fail
  exact bodyPost_ret (v := .tuple #[.agg #[.bool false, .int .i64 0], .int .i64 66]) (by simp [results, Tryd.results47, go_sem]) rfl ⟨rfl, (Ext.refl _).alloc _⟩
theorem rof_lo (n : Int) (w : World) (h : n < -1000000000) : Calls Tryd.prog 47 #[.int .i64 n] w fun e w' => e = .returned (.tuple #[.agg #[.bool false, .int .i64 0], .int .i64 66]) ∧ Ext w w' := by
  go_enter Tryd.func47, Tryd.ntmps47
  go_wp2_with fail
  exact bodyPost_ret (v := .tuple #[.agg #[.bool false, .int .i64 0], .int .i64 66]) (by simp [results, Tryd.results47, go_sem]) rfl ⟨rfl, (Ext.refl _).alloc _⟩
theorem rof_in (n : Int) (w : World) (h : n ≤ 1000000000 ∧ -1000000000 ≤ n) : Calls Tryd.prog 47 #[.int .i64 n] w fun e w' => e = .returned (.tuple #[.agg #[.bool false, .int .i64 (n * 1000000)], .int .i64 0]) ∧ Ext w w' := by
  obtain ⟨h1, h2⟩ := h
  go_enter Tryd.func47, Tryd.ntmps47
  go_wp2_with fail
  exact bodyPost_ret (v := .tuple #[.agg #[.bool false, .int .i64 (n * 1000000)], .int .i64 0]) (by simp [results, Tryd.results47, go_sem]) rfl ⟨rfl, (Ext.refl _).alloc _⟩
theorem rof_any (n : Int) (w : World) : Calls Tryd.prog 47 #[.int .i64 n] w fun e w' => e = .returned (.tuple #[.agg #[.bool (ofS n).1.1, .int .i64 (ofS n).1.2], .int .i64 (ofS n).2]) ∧ Ext w w' := by
  by_cases h : 1000000000 < n
  · rw [ofS, if_pos (Or.inl h)]; exact rof_hi n w h
  · by_cases h' : n < -1000000000
    · rw [ofS, if_pos (Or.inr h')]; exact rof_lo n w h'
    · rw [ofS, if_neg (by omega)]; exact rof_in n w ⟨by omega, by omega⟩
theorem rfloor1_odd (an : Bool) (av : Int) (w : World) (ho : oddB an av = true) : Calls Tryd.prog 42 #[.agg #[.bool an, .int .i64 av]] w fun e w' => e = .returned (.tuple #[.agg #[.bool true, .int .i64 0], .int .i64 0]) ∧ Ext w w' := by
  have HO := Lib.hid ho; clear ho
  go_enter Tryd.func42, Tryd.ntmps42
  go_wp2_with fail
  refine (rodd_any an av _).mono ?_
  rw [HO.out]
  rintro e w1 ⟨rfl, hB1⟩
  have hc1 := hB1.cells; have hf1 := hB1.frees; have hz1 := hB1.size
  simp at hz1
  go_wp2_with fail
  have hc := hB1.cells; have hf := hB1.frees; have hz := hB1.size
  simp at hz
  refine (rnone_any _).mono ?_
  rintro e w9 ⟨rfl, hB9⟩
  have hc9 := hB9.cells; have hf9 := hB9.frees; have hz9 := hB9.size
  have l2 : w.heap.size + 1 < w1.heap.size := by omega
  have l9 : w.heap.size + 1 < w9.heap.size := by omega
  go_wp2_with fail
  refine bodyPost_ret (v := .tuple #[.agg #[.bool true, .int .i64 0], .int .i64 0]) (by simp [results, Tryd.results42, go_sem, hc, hc9, l2]) rfl ⟨rfl, ?_⟩
  repeat (first | exact Ext.refl _ | refine Ext.set ?_ (by dsimp only; omega) _ | refine Ext.alloc ?_ _ | refine Ext.drew ?_ | refine (Ext.trans ?_ (by assumption)))

theorem rfloor1_ok (av : Int) (w : World) (ha : oddB false av = false) {r1 : Bool} {r2 r3 : Int} (hr : fitS (floorV av) = ((r1, r2), r3)) : Calls Tryd.prog 42 #[.agg #[.bool false, .int .i64 av]] w fun e w' => e = .returned (.tuple #[.agg #[.bool r1, .int .i64 r2], .int .i64 r3]) ∧ Ext w w' := by
  obtain ⟨_, a1, a2⟩ := oddB_false ha
  have HA := Lib.hid ha; have HR := Lib.hid hr; clear ha hr
  go_enter Tryd.func42, Tryd.ntmps42
  go_wp2_with fail
  refine (rodd_any false av _).mono ?_
  rw [HA.out]
  rintro e w1 ⟨rfl, hB1⟩
  have hc1 := hB1.cells; have hf1 := hB1.frees; have hz1 := hB1.size
  simp at hz1
  go_wp2_with fail
  refine (rfloor_any (av) _ (by omega) (by omega)).mono ?_
  rintro e w' ⟨rfl, rfl⟩
  go_wp2_with fail
  refine (rfit_any _ _ HR.out).mono ?_
  rintro e w3 ⟨rfl, hB3⟩
  have hc3 := (hB1.trans hB3).cells; have hf3 := (hB1.trans hB3).frees; have hz3 := hB3.size
  go_wp2_with fail
  refine bodyPost_ret (v := .tuple #[.agg #[.bool r1, .int .i64 r2], .int .i64 r3]) (by simp [results, Tryd.results42, go_sem, hc3]) rfl ⟨rfl, ?_⟩
  repeat (first | exact Ext.refl _ | refine Ext.set ?_ (by dsimp only; omega) _ | refine Ext.alloc ?_ _ | refine Ext.drew ?_ | refine (Ext.trans ?_ (by assumption)))

theorem rfloor1_any (an : Bool) (av : Int) (w : World) : Calls Tryd.prog 42 #[.agg #[.bool an, .int .i64 av]] w fun e w' => e = .returned (.tuple #[.agg #[.bool (one an av (fitS (floorV av))).1.1, .int .i64 (one an av (fitS (floorV av))).1.2], .int .i64 (one an av (fitS (floorV av))).2]) ∧ Ext w w' := by
  by_cases h : oddB an av = true
  · rw [one, if_pos h]; exact rfloor1_odd an av w h
  · rw [one, if_neg h]
    have h' : oddB an av = false := by simpa using h
    obtain ⟨rfl, _, _⟩ := oddB_false h'
    exact rfloor1_ok av w h' rfl
theorem rround1_odd (an : Bool) (av : Int) (w : World) (ho : oddB an av = true) : Calls Tryd.prog 45 #[.agg #[.bool an, .int .i64 av]] w fun e w' => e = .returned (.tuple #[.agg #[.bool true, .int .i64 0], .int .i64 0]) ∧ Ext w w' := by
  have HO := Lib.hid ho; clear ho
  go_enter Tryd.func45, Tryd.ntmps45
  go_wp2_with fail
  refine (rodd_any an av _).mono ?_
  rw [HO.out]
  rintro e w1 ⟨rfl, hB1⟩
  have hc1 := hB1.cells; have hf1 := hB1.frees; have hz1 := hB1.size
  simp at hz1
  go_wp2_with fail
  have hc := hB1.cells; have hf := hB1.frees; have hz := hB1.size
  simp at hz
  refine (rnone_any _).mono ?_
  rintro e w9 ⟨rfl, hB9⟩
  have hc9 := hB9.cells; have hf9 := hB9.frees; have hz9 := hB9.size
  have l2 : w.heap.size + 1 < w1.heap.size := by omega
  have l9 : w.heap.size + 1 < w9.heap.size := by omega
  go_wp2_with fail
  refine bodyPost_ret (v := .tuple #[.agg #[.bool true, .int .i64 0], .int .i64 0]) (by simp [results, Tryd.results45, go_sem, hc, hc9, l2]) rfl ⟨rfl, ?_⟩
  repeat (first | exact Ext.refl _ | refine Ext.set ?_ (by dsimp only; omega) _ | refine Ext.alloc ?_ _ | refine Ext.drew ?_ | refine (Ext.trans ?_ (by assumption)))

theorem rround1_ok (av : Int) (w : World) (ha : oddB false av = false) {r1 : Bool} {r2 r3 : Int} (hr : fitS (floorV (av + 500000)) = ((r1, r2), r3)) : Calls Tryd.prog 45 #[.agg #[.bool false, .int .i64 av]] w fun e w' => e = .returned (.tuple #[.agg #[.bool r1, .int .i64 r2], .int .i64 r3]) ∧ Ext w w' := by
  obtain ⟨_, a1, a2⟩ := oddB_false ha
  have HA := Lib.hid ha; have HR := Lib.hid hr; clear ha hr
  go_enter Tryd.func45, Tryd.ntmps45
  go_wp2_with fail
  refine (rodd_any false av _).mono ?_
  rw [HA.out]
  rintro e w1 ⟨rfl, hB1⟩
  have hc1 := hB1.cells; have hf1 := hB1.frees; have hz1 := hB1.size
  simp at hz1
  go_wp2_with fail
  refine (rfloor_any (av + 500000) _ (by omega) (by omega)).mono ?_
  rintro e w' ⟨rfl, rfl⟩
  go_wp2_with fail
  refine (rfit_any _ _ HR.out).mono ?_
  rintro e w3 ⟨rfl, hB3⟩
  have hc3 := (hB1.trans hB3).cells; have hf3 := (hB1.trans hB3).frees; have hz3 := hB3.size
  go_wp2_with fail
  refine bodyPost_ret (v := .tuple #[.agg #[.bool r1, .int .i64 r2], .int .i64 r3]) (by simp [results, Tryd.results45, go_sem, hc3]) rfl ⟨rfl, ?_⟩
  repeat (first | exact Ext.refl _ | refine Ext.set ?_ (by dsimp only; omega) _ | refine Ext.alloc ?_ _ | refine Ext.drew ?_ | refine (Ext.trans ?_ (by assumption)))

theorem rround1_any (an : Bool) (av : Int) (w : World) : Calls Tryd.prog 45 #[.agg #[.bool an, .int .i64 av]] w fun e w' => e = .returned (.tuple #[.agg #[.bool (one an av (fitS (floorV (av + 500000)))).1.1, .int .i64 (one an av (fitS (floorV (av + 500000)))).1.2], .int .i64 (one an av (fitS (floorV (av + 500000)))).2]) ∧ Ext w w' := by
  by_cases h : oddB an av = true
  · rw [one, if_pos h]; exact rround1_odd an av w h
  · rw [one, if_neg h]
    have h' : oddB an av = false := by simpa using h
    obtain ⟨rfl, _, _⟩ := oddB_false h'
    exact rround1_ok av w h' rfl
theorem rceil_odd (an : Bool) (av : Int) (w : World) (ho : oddB an av = true) : Calls Tryd.prog 43 #[.agg #[.bool an, .int .i64 av]] w fun e w' => e = .returned (.tuple #[.agg #[.bool true, .int .i64 0], .int .i64 0]) ∧ Ext w w' := by
  have HO := Lib.hid ho; clear ho
  go_enter Tryd.func43, Tryd.ntmps43
  go_wp2_with fail
  refine (rodd_any an av _).mono ?_
  rw [HO.out]
  rintro e w1 ⟨rfl, hB1⟩
  have hc1 := hB1.cells; have hf1 := hB1.frees; have hz1 := hB1.size
  simp at hz1
  go_wp2_with fail
  have hc := hB1.cells; have hf := hB1.frees; have hz := hB1.size
  simp at hz
  refine (rnone_any _).mono ?_
  rintro e w9 ⟨rfl, hB9⟩
  have hc9 := hB9.cells; have hf9 := hB9.frees; have hz9 := hB9.size
  have l2 : w.heap.size + 1 < w1.heap.size := by omega
  have l9 : w.heap.size + 1 < w9.heap.size := by omega
  go_wp2_with fail
  refine bodyPost_ret (v := .tuple #[.agg #[.bool true, .int .i64 0], .int .i64 0]) (by simp [results, Tryd.results43, go_sem, hc, hc9, l2]) rfl ⟨rfl, ?_⟩
  repeat (first | exact Ext.refl _ | refine Ext.set ?_ (by dsimp only; omega) _ | refine Ext.alloc ?_ _ | refine Ext.drew ?_ | refine (Ext.trans ?_ (by assumption)))

theorem rceil_up (av : Int) (w : World) (ha : oddB false av = false) (hs : floorV av < av) {r1 : Bool} {r2 r3 : Int} (hr : fitS (floorV av + 1000000) = ((r1, r2), r3)) : Calls Tryd.prog 43 #[.agg #[.bool false, .int .i64 av]] w fun e w' => e = .returned (.tuple #[.agg #[.bool r1, .int .i64 r2], .int .i64 r3]) ∧ Ext w w' := by
  obtain ⟨_, a1, a2⟩ := oddB_false ha
  have v1 := floorV_le av
  obtain ⟨v2, v3⟩ := v1
  have HA := Lib.hid ha; have HR := Lib.hid hr; clear ha hr
  go_enter Tryd.func43, Tryd.ntmps43
  go_wp2_with fail
  refine (rodd_any false av _).mono ?_
  rw [HA.out]
  rintro e w1 ⟨rfl, hB1⟩
  have hc1 := hB1.cells; have hf1 := hB1.frees; have hz1 := hB1.size
  simp at hz1
  go_wp2_with fail
  refine (rfloor_any av _ (by omega) (by omega)).mono ?_
  rintro e w' ⟨rfl, rfl⟩
  go_wp2_with fail
  refine (rfit_any _ _ HR.out).mono ?_
  rintro e w3 ⟨rfl, hB3⟩
  have hc3 := (hB1.trans hB3).cells; have hf3 := (hB1.trans hB3).frees; have hz3 := hB3.size
  go_wp2_with fail
  refine bodyPost_ret (v := .tuple #[.agg #[.bool r1, .int .i64 r2], .int .i64 r3]) (by simp [results, Tryd.results43, go_sem, hc3]) rfl ⟨rfl, ?_⟩
  repeat (first | exact Ext.refl _ | refine Ext.set ?_ (by dsimp only; omega) _ | refine Ext.alloc ?_ _ | refine Ext.drew ?_ | refine (Ext.trans ?_ (by assumption)))

theorem rceil_at (av : Int) (w : World) (ha : oddB false av = false) (hs : av ≤ floorV av) {r1 : Bool} {r2 r3 : Int} (hr : fitS (floorV av) = ((r1, r2), r3)) : Calls Tryd.prog 43 #[.agg #[.bool false, .int .i64 av]] w fun e w' => e = .returned (.tuple #[.agg #[.bool r1, .int .i64 r2], .int .i64 r3]) ∧ Ext w w' := by
  obtain ⟨_, a1, a2⟩ := oddB_false ha
  have v1 := floorV_le av
  obtain ⟨v2, v3⟩ := v1
  have HA := Lib.hid ha; have HR := Lib.hid hr; clear ha hr
  go_enter Tryd.func43, Tryd.ntmps43
  go_wp2_with fail
  refine (rodd_any false av _).mono ?_
  rw [HA.out]
  rintro e w1 ⟨rfl, hB1⟩
  have hc1 := hB1.cells; have hf1 := hB1.frees; have hz1 := hB1.size
  simp at hz1
  go_wp2_with fail
  refine (rfloor_any av _ (by omega) (by omega)).mono ?_
  rintro e w' ⟨rfl, rfl⟩
  go_wp2_with fail
  refine (rfit_any _ _ HR.out).mono ?_
  rintro e w3 ⟨rfl, hB3⟩
  have hc3 := (hB1.trans hB3).cells; have hf3 := (hB1.trans hB3).frees; have hz3 := hB3.size
  go_wp2_with fail
  refine bodyPost_ret (v := .tuple #[.agg #[.bool r1, .int .i64 r2], .int .i64 r3]) (by simp [results, Tryd.results43, go_sem, hc3]) rfl ⟨rfl, ?_⟩
  repeat (first | exact Ext.refl _ | refine Ext.set ?_ (by dsimp only; omega) _ | refine Ext.alloc ?_ _ | refine Ext.drew ?_ | refine (Ext.trans ?_ (by assumption)))

theorem rceil_any (an : Bool) (av : Int) (w : World) : Calls Tryd.prog 43 #[.agg #[.bool an, .int .i64 av]] w fun e w' => e = .returned (.tuple #[.agg #[.bool (ceilS an av).1.1, .int .i64 (ceilS an av).1.2], .int .i64 (ceilS an av).2]) ∧ Ext w w' := by
  by_cases h : oddB an av = true
  · rw [ceilS, one, if_pos h]; exact rceil_odd an av w h
  · rw [ceilS, one, if_neg h]
    have h' : oddB an av = false := by simpa using h
    obtain ⟨rfl, _, _⟩ := oddB_false h'
    by_cases hs : floorV av < av
    · have e : ceilV av = floorV av + 1000000 := by unfold ceilV floorV at *; omega
      rw [e]; exact rceil_up av w h' hs rfl
    · have e : ceilV av = floorV av := by unfold ceilV floorV at *; omega
      rw [e]; exact rceil_at av w h' (by omega) rfl
theorem rless_odd1 (an bn : Bool) (av bv : Int) (w : World) (ho : oddB an av = true) : Calls Tryd.prog 40 #[.agg #[.bool an, .int .i64 av], .agg #[.bool bn, .int .i64 bv]] w fun e w' => e = .returned (.bool false) ∧ Ext w w' := by
  have HO := Lib.hid ho; clear ho
  go_enter Tryd.func40, Tryd.ntmps40
  go_wp2_with fail
  refine (rodd_any an av _).mono ?_
  rw [HO.out]
  rintro e w1 ⟨rfl, hB1⟩
  have hc1 := hB1.cells; have hf1 := hB1.frees; have hz1 := hB1.size
  simp at hz1
  go_wp2_with fail
  go_ret
  refine ⟨rfl, ?_⟩
  repeat (first | exact Ext.refl _ | refine Ext.set ?_ (by dsimp only; omega) _ | refine Ext.alloc ?_ _ | refine Ext.drew ?_ | refine (Ext.trans ?_ (by assumption)))
theorem rless_odd2 (bn : Bool) (av bv : Int) (w : World) (ha : oddB false av = false) (ho : oddB bn bv = true) : Calls Tryd.prog 40 #[.agg #[.bool false, .int .i64 av], .agg #[.bool bn, .int .i64 bv]] w fun e w' => e = .returned (.bool false) ∧ Ext w w' := by
  have HA := Lib.hid ha; have HO := Lib.hid ho; clear ho ha
  go_enter Tryd.func40, Tryd.ntmps40
  go_wp2_with fail
  refine (rodd_any false av _).mono ?_
  rw [HA.out]
  rintro e w1 ⟨rfl, hB1⟩
  have hc1 := hB1.cells; have hf1 := hB1.frees; have hz1 := hB1.size
  simp at hz1
  go_wp2_with fail
  refine (rodd_any bn bv _).mono ?_
  rw [HO.out]
  rintro e w2 ⟨rfl, hB2⟩
  go_wp2_with fail
  go_ret
  refine ⟨rfl, ?_⟩
  repeat (first | exact Ext.refl _ | refine Ext.set ?_ (by dsimp only; omega) _ | refine Ext.alloc ?_ _ | refine Ext.drew ?_ | refine (Ext.trans ?_ (by assumption)))
theorem rless_ok (av bv : Int) (w : World) (ha : oddB false av = false) (hb : oddB false bv = false) : Calls Tryd.prog 40 #[.agg #[.bool false, .int .i64 av], .agg #[.bool false, .int .i64 bv]] w fun e w' => e = .returned (.bool (decide (av < bv))) ∧ Ext w w' := by
  obtain ⟨_, a1, a2⟩ := oddB_false ha
  obtain ⟨_, b1, b2⟩ := oddB_false hb
  have HA := Lib.hid ha; have HO := Lib.hid hb; clear hb ha
  go_enter Tryd.func40, Tryd.ntmps40
  go_wp2_with fail
  refine (rodd_any false av _).mono ?_
  rw [HA.out]
  rintro e w1 ⟨rfl, hB1⟩
  have hc1 := hB1.cells; have hf1 := hB1.frees; have hz1 := hB1.size
  simp at hz1
  go_wp2_with fail
  refine (rodd_any false bv _).mono ?_
  rw [HO.out]
  rintro e w2 ⟨rfl, hB2⟩
  have hc2 := (hB1.trans hB2).cells; have hf2 := (hB1.trans hB2).frees; have hz2 := hB2.size
  go_wp2_with fail
  go_ret
  refine ⟨rfl, ?_⟩
  repeat (first | exact Ext.refl _ | refine Ext.set ?_ (by dsimp only; omega) _ | refine Ext.alloc ?_ _ | refine Ext.drew ?_ | refine (Ext.trans ?_ (by assumption)))
theorem rless_any (an bn : Bool) (av bv : Int) (w : World) : Calls Tryd.prog 40 #[.agg #[.bool an, .int .i64 av], .agg #[.bool bn, .int .i64 bv]] w fun e w' => e = .returned (.bool (lessS an bn av bv)) ∧ Ext w w' := by
  by_cases h : oddB an av = true
  · rw [lessS, h]; exact rless_odd1 an bn av bv w h
  · have h1 : oddB an av = false := by simpa using h
    by_cases h' : oddB bn bv = true
    · rw [lessS, h', h1]
      obtain ⟨rfl, _, _⟩ := oddB_false h1
      exact rless_odd2 bn av bv w h1 h'
    · have h2 : oddB bn bv = false := by simpa using h'
      rw [lessS, h1, h2]
      obtain ⟨rfl, a1, a2⟩ := oddB_false h1
      obtain ⟨rfl, b1, b2⟩ := oddB_false h2
      exact rless_ok av bv w h1 h2
theorem requal_odd1 (an bn : Bool) (av bv : Int) (w : World) (ho : oddB an av = true) : Calls Tryd.prog 41 #[.agg #[.bool an, .int .i64 av], .agg #[.bool bn, .int .i64 bv]] w fun e w' => e = .returned (.bool false) ∧ Ext w w' := by
  have HO := Lib.hid ho; clear ho
  go_enter Tryd.func41, Tryd.ntmps41
  go_wp2_with fail
  refine (rodd_any an av _).mono ?_
  rw [HO.out]
  rintro e w1 ⟨rfl, hB1⟩
  have hc1 := hB1.cells; have hf1 := hB1.frees; have hz1 := hB1.size
  simp at hz1
  go_wp2_with fail
  go_ret
  refine ⟨rfl, ?_⟩
  repeat (first | exact Ext.refl _ | refine Ext.set ?_ (by dsimp only; omega) _ | refine Ext.alloc ?_ _ | refine Ext.drew ?_ | refine (Ext.trans ?_ (by assumption)))
theorem requal_odd2 (bn : Bool) (av bv : Int) (w : World) (ha : oddB false av = false) (ho : oddB bn bv = true) : Calls Tryd.prog 41 #[.agg #[.bool false, .int .i64 av], .agg #[.bool bn, .int .i64 bv]] w fun e w' => e = .returned (.bool false) ∧ Ext w w' := by
  have HA := Lib.hid ha; have HO := Lib.hid ho; clear ho ha
  go_enter Tryd.func41, Tryd.ntmps41
  go_wp2_with fail
  refine (rodd_any false av _).mono ?_
  rw [HA.out]
  rintro e w1 ⟨rfl, hB1⟩
  have hc1 := hB1.cells; have hf1 := hB1.frees; have hz1 := hB1.size
  simp at hz1
  go_wp2_with fail
  refine (rodd_any bn bv _).mono ?_
  rw [HO.out]
  rintro e w2 ⟨rfl, hB2⟩
  go_wp2_with fail
  go_ret
  refine ⟨rfl, ?_⟩
  repeat (first | exact Ext.refl _ | refine Ext.set ?_ (by dsimp only; omega) _ | refine Ext.alloc ?_ _ | refine Ext.drew ?_ | refine (Ext.trans ?_ (by assumption)))
theorem requal_yes (av bv : Int) (w : World) (ha : oddB false av = false) (hb : oddB false bv = false) (h : av = bv) : Calls Tryd.prog 41 #[.agg #[.bool false, .int .i64 av], .agg #[.bool false, .int .i64 bv]] w fun e w' => e = .returned (.bool true) ∧ Ext w w' := by
  obtain ⟨_, a1, a2⟩ := oddB_false ha
  obtain ⟨_, b1, b2⟩ := oddB_false hb
  subst h
  have HA := Lib.hid ha; have HO := Lib.hid hb; clear hb ha
  go_enter Tryd.func41, Tryd.ntmps41
  go_wp2_with fail
  refine (rodd_any false av _).mono ?_
  rw [HA.out]
  rintro e w1 ⟨rfl, hB1⟩
  have hc1 := hB1.cells; have hf1 := hB1.frees; have hz1 := hB1.size
  simp at hz1
  go_wp2_with fail
  refine (rodd_any false av _).mono ?_
  rw [HO.out]
  rintro e w2 ⟨rfl, hB2⟩
  have hc2 := (hB1.trans hB2).cells; have hf2 := (hB1.trans hB2).frees; have hz2 := hB2.size
  go_wp2_with fail
  go_ret
  refine ⟨rfl, ?_⟩
  repeat (first | exact Ext.refl _ | refine Ext.set ?_ (by dsimp only; omega) _ | refine Ext.alloc ?_ _ | refine Ext.drew ?_ | refine (Ext.trans ?_ (by assumption)))
theorem requal_no (av bv : Int) (w : World) (ha : oddB false av = false) (hb : oddB false bv = false) (h : ¬ av = bv) : Calls Tryd.prog 41 #[.agg #[.bool false, .int .i64 av], .agg #[.bool false, .int .i64 bv]] w fun e w' => e = .returned (.bool false) ∧ Ext w w' := by
  obtain ⟨_, a1, a2⟩ := oddB_false ha
  obtain ⟨_, b1, b2⟩ := oddB_false hb
  have hne : (av == bv) = false := by simpa using h
  clear h
  have HA := Lib.hid ha; have HO := Lib.hid hb; clear hb ha
  go_enter Tryd.func41, Tryd.ntmps41
  go_wp2_with fail
  refine (rodd_any false av _).mono ?_
  rw [HA.out]
  rintro e w1 ⟨rfl, hB1⟩
  have hc1 := hB1.cells; have hf1 := hB1.frees; have hz1 := hB1.size
  simp at hz1
  go_wp2_with fail
  refine (rodd_any false bv _).mono ?_
  rw [HO.out]
  rintro e w2 ⟨rfl, hB2⟩
  have hc2 := (hB1.trans hB2).cells; have hf2 := (hB1.trans hB2).frees; have hz2 := hB2.size
  go_wp2_with fail
  go_ret
  refine ⟨rfl, ?_⟩
  repeat (first | exact Ext.refl _ | refine Ext.set ?_ (by dsimp only; omega) _ | refine Ext.alloc ?_ _ | refine Ext.drew ?_ | refine (Ext.trans ?_ (by assumption)))
theorem requal_ok (av bv : Int) (w : World) (ha : oddB false av = false) (hb : oddB false bv = false) : Calls Tryd.prog 41 #[.agg #[.bool false, .int .i64 av], .agg #[.bool false, .int .i64 bv]] w fun e w' => e = .returned (.bool (decide (av = bv))) ∧ Ext w w' := by
  by_cases h : av = bv
  · rw [decide_eq_true h]; exact requal_yes av bv w ha hb h
  · rw [decide_eq_false h]; exact requal_no av bv w ha hb h
theorem requal_any (an bn : Bool) (av bv : Int) (w : World) : Calls Tryd.prog 41 #[.agg #[.bool an, .int .i64 av], .agg #[.bool bn, .int .i64 bv]] w fun e w' => e = .returned (.bool (equalS an bn av bv)) ∧ Ext w w' := by
  by_cases h : oddB an av = true
  · rw [equalS, h]; exact requal_odd1 an bn av bv w h
  · have h1 : oddB an av = false := by simpa using h
    by_cases h' : oddB bn bv = true
    · rw [equalS, h', h1]
      obtain ⟨rfl, _, _⟩ := oddB_false h1
      exact requal_odd2 bn av bv w h1 h'
    · have h2 : oddB bn bv = false := by simpa using h'
      rw [equalS, h1, h2]
      obtain ⟨rfl, a1, a2⟩ := oddB_false h1
      obtain ⟨rfl, b1, b2⟩ := oddB_false h2
      exact requal_ok av bv w h1 h2
end Go.Proofs.YtcdpjgdaofgpcaaDoor
