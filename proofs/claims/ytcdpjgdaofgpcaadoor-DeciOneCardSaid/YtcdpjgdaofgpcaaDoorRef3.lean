/-
  Contracts of the reference of layer 3 (decimal numbers), but Parse and Text. Helper lemmas; no statement of the seat is proved here.
-/
import Derived.Test.YtcdpjgdaofgpcaaDoorDeciD
namespace Go.Proofs.YtcdpjgdaofgpcaaDoor
open Go.RowKit
set_option maxRecDepth 100000
set_option linter.unusedVariables false

theorem rodd_yes (n : Bool) (v : Int) (w : World) (ho : oddB n v = true) : Calls Tryd.prog 24 #[.agg #[.bool n, .int .i64 v]] w fun e w' => e = .returned (.bool true) ∧ Ext w w' := by
  cases n with
  | true =>
    clear ho
    go_enter Tryd.func24, Tryd.ntmps24
    go_wp2_with fail
    go_ret
    exact ⟨rfl, (Ext.refl _).alloc _⟩
  | false =>
    by_cases h1 : 1000000000000000 < v
    · clear ho
      go_enter Tryd.func24, Tryd.ntmps24
      go_wp2_with fail
      go_ret
      exact ⟨rfl, (Ext.refl _).alloc _⟩
    · have h2 : v < -1000000000000000 := by simp [oddB] at ho; omega
      clear ho
      go_enter Tryd.func24, Tryd.ntmps24
      go_wp2_with fail
      go_ret
      exact ⟨rfl, (Ext.refl _).alloc _⟩
theorem rodd_no (v : Int) (w : World) (h1 : v ≤ 1000000000000000) (h2 : -1000000000000000 ≤ v) : Calls Tryd.prog 24 #[.agg #[.bool false, .int .i64 v]] w fun e w' => e = .returned (.bool false) ∧ Ext w w' := by
  have h1' : ¬ 1000000000000000 < v := by omega
  have h2' : decide (v < -1000000000000000) = false := by simp; omega
  go_enter Tryd.func24, Tryd.ntmps24
  go_wp2_with fail
  go_ret
  exact ⟨rfl, (Ext.refl _).alloc _⟩
theorem rodd_any (n : Bool) (v : Int) (w : World) : Calls Tryd.prog 24 #[.agg #[.bool n, .int .i64 v]] w fun e w' => e = .returned (.bool (oddB n v)) ∧ Ext w w' := by
  cases h : oddB n v with
  | true => exact rodd_yes n v w h
  | false =>
    obtain ⟨rfl, h1, h2⟩ := oddB_false h
    exact rodd_no v w h1 h2
theorem rnone_any (w : World) : Calls Tryd.prog 86 #[] w fun e w' => e = .returned (.agg #[.bool true, .int .i64 0]) ∧ Ext w w' := by
  go_enter Tryd.func86, Tryd.ntmps86
  go_wp2_with fail
  exact bodyPost_ret (v := .agg #[.bool true, .int .i64 0]) (by simp [results, Tryd.results86, go_sem]) rfl ⟨rfl, (Ext.refl _).alloc _⟩
theorem rfit_hi (v : Int) (w : World) (h : 1000000000000000 < v) : Calls Tryd.prog 93 #[.int .i64 v] w fun e w' => e = .returned (.tuple #[.agg #[.bool false, .int .i64 0], .int .i64 66]) ∧ Ext w w' := by
  go_enter Tryd.func93, Tryd.ntmps93
  go_wp2_with fail
  exact bodyPost_ret (v := .tuple #[.agg #[.bool false, .int .i64 0], .int .i64 66]) (by simp [results, Tryd.results93, go_sem]) rfl ⟨rfl, (Ext.refl _).alloc _⟩
theorem rfit_lo (v : Int) (w : World) (h : v < -1000000000000000) : Calls Tryd.prog 93 #[.int .i64 v] w fun e w' => e = .returned (.tuple #[.agg #[.bool false, .int .i64 0], .int .i64 66]) ∧ Ext w w' := by
  go_enter Tryd.func93, Tryd.ntmps93
  go_wp2_with fail
  exact bodyPost_ret (v := .tuple #[.agg #[.bool false, .int .i64 0], .int .i64 66]) (by simp [results, Tryd.results93, go_sem]) rfl ⟨rfl, (Ext.refl _).alloc _⟩
theorem rfit_in (v : Int) (w : World) (h : v ≤ 1000000000000000 ∧ -1000000000000000 ≤ v) : Calls Tryd.prog 93 #[.int .i64 v] w fun e w' => e = .returned (.tuple #[.agg #[.bool false, .int .i64 v], .int .i64 0]) ∧ Ext w w' := by
  obtain ⟨h1, h2⟩ := h
  go_enter Tryd.func93, Tryd.ntmps93
  go_wp2_with fail
  exact bodyPost_ret (v := .tuple #[.agg #[.bool false, .int .i64 v], .int .i64 0]) (by simp [results, Tryd.results93, go_sem]) rfl ⟨rfl, (Ext.refl _).alloc _⟩
theorem rfit_any (v : Int) (w : World) {r1 : Bool} {r2 r3 : Int} (hr : fitS v = ((r1, r2), r3)) : Calls Tryd.prog 93 #[.int .i64 v] w fun e w' => e = .returned (.tuple #[.agg #[.bool r1, .int .i64 r2], .int .i64 r3]) ∧ Ext w w' := by
  by_cases h : 1000000000000000 < v
  · rw [fitS_hi h] at hr; injection hr with h1 h2; injection h1 with h1 h3; subst h1; subst h2; subst h3; exact rfit_hi v w h
  · by_cases h' : v < -1000000000000000
    · rw [fitS_lo h'] at hr; injection hr with h1 h2; injection h1 with h1 h3; subst h1; subst h2; subst h3; exact rfit_lo v w h'
    · rw [fitS_in (by omega) (by omega)] at hr; injection hr with h1 h2; injection h1 with h1 h3; subst h1; subst h2; subst h3; exact rfit_in v w ⟨by omega, by omega⟩
theorem rabs_any (v : Int) (w : World) (h1 : -9223372036854775807 ≤ v) (h2 : v ≤ 9223372036854775807) :
    Calls Tryd.prog 94 #[.int .i64 v] w fun e w' => e = .returned (.int .i64 (absI v)) ∧ w = w' := by
  by_cases hv : v < 0
  · rw [absI_neg hv]
    go_enter Tryd.func94, Tryd.ntmps94
    go_wp2
    go_ret
    exact ⟨rfl, rfl⟩
  · rw [absI_pos (by omega)]
    go_enter Tryd.func94, Tryd.ntmps94
    go_wp2
    go_ret
    exact ⟨rfl, rfl⟩
theorem tdiv_neg (v : Int) (h : v < 0) : v.tdiv 1000000 = -((-v) / 1000000) := by
  have e : v = -(-v) := by omega
  rw [e, Int.neg_tdiv, Int.tdiv_eq_ediv_of_nonneg (by omega)]
  simp
theorem rfloor_pos (v : Int) (w : World) (h1 : 0 ≤ v) (h2 : v ≤ 1000001000000000) :
    Calls Tryd.prog 95 #[.int .i64 v] w fun e w' => e = .returned (.int .i64 (floorV v)) ∧ w = w' := by
  have e : floorV v = v / 1000000 * 1000000 := by unfold floorV; omega
  rw [e]
  go_enter Tryd.func95, Tryd.ntmps95
  go_wp2
  go_ret
  exact ⟨rfl, rfl⟩
theorem rfloor_neg (v : Int) (w : World) (h1 : v < 0) (h2 : -1000001000000000 ≤ v) (hm : v < v.tdiv 1000000 * 1000000) :
    Calls Tryd.prog 95 #[.int .i64 v] w fun e w' => e = .returned (.int .i64 (floorV v)) ∧ w = w' := by
  have ht := tdiv_neg v h1
  have e : floorV v = v.tdiv 1000000 * 1000000 - 1000000 := by unfold floorV; omega
  have t1 : -1000001000 ≤ v.tdiv 1000000 := by omega
  have t2 : v.tdiv 1000000 ≤ 0 := by omega
  clear ht
  rw [e]
  go_enter Tryd.func95, Tryd.ntmps95
  go_wp2
  go_ret
  exact ⟨rfl, rfl⟩
theorem rfloor_whole (v : Int) (w : World) (h1 : v < 0) (h2 : -1000001000000000 ≤ v) (hm : v.tdiv 1000000 * 1000000 ≤ v) :
    Calls Tryd.prog 95 #[.int .i64 v] w fun e w' => e = .returned (.int .i64 (floorV v)) ∧ w = w' := by
  have ht := tdiv_neg v h1
  have e : floorV v = v.tdiv 1000000 * 1000000 := by unfold floorV; omega
  have t1 : -1000001000 ≤ v.tdiv 1000000 := by omega
  have t2 : v.tdiv 1000000 ≤ 0 := by omega
  clear ht
  rw [e]
  go_enter Tryd.func95, Tryd.ntmps95
  go_wp2
  go_ret
  exact ⟨rfl, rfl⟩
theorem rfloor_any (v : Int) (w : World) (h1 : -1000001000000000 ≤ v) (h2 : v ≤ 1000001000000000) :
    Calls Tryd.prog 95 #[.int .i64 v] w fun e w' => e = .returned (.int .i64 (floorV v)) ∧ w = w' := by
  by_cases h : 0 ≤ v
  · exact rfloor_pos v w h h2
  · by_cases hm : v < v.tdiv 1000000 * 1000000
    · exact rfloor_neg v w (by omega) h1 hm
    · exact rfloor_whole v w (by omega) h1 (by omega)
theorem radd_odd1 (an bn : Bool) (av bv : Int) (w : World) (ho : oddB an av = true) : Calls Tryd.prog 35 #[.agg #[.bool an, .int .i64 av], .agg #[.bool bn, .int .i64 bv]] w fun e w' => e = .returned (.tuple #[.agg #[.bool true, .int .i64 0], .int .i64 0]) ∧ Ext w w' := by
  have HO := Lib.hid ho; clear ho
  go_enter Tryd.func35, Tryd.ntmps35
  go_wp2_with fail
  refine (rodd_any an av _).mono ?_
  rw [HO.out]
  rintro e w1 ⟨rfl, hB1⟩
  have hc1 := hB1.cells; have hf1 := hB1.frees; have hz1 := hB1.size
  simp at hz1
  go_wp2_with fail
  have hc := hB1.cells; have hf := hB1.frees; have hz := hB1.size
  simp at hz
  refine (rnone_any _).mono ?_
  rintro e w9 ⟨rfl, hB9⟩
  have hc9 := hB9.cells; have hf9 := hB9.frees; have hz9 := hB9.size
  have l2 : w.heap.size + 1 + 1 < w1.heap.size := by omega
  have l9 : w.heap.size + 1 + 1 < w9.heap.size := by omega
  go_wp2_with fail
  refine bodyPost_ret (v := .tuple #[.agg #[.bool true, .int .i64 0], .int .i64 0]) (by simp [results, Tryd.results35, go_sem, hc, hc9, l2]) rfl ⟨rfl, ?_⟩
  repeat (first | exact Ext.refl _ | refine Ext.set ?_ (by dsimp only; omega) _ | refine Ext.alloc ?_ _ | refine Ext.drew ?_ | refine (Ext.trans ?_ (by assumption)))

theorem radd_odd2 (bn : Bool) (av bv : Int) (w : World) (ha : oddB false av = false) (ho : oddB bn bv = true) : Calls Tryd.prog 35 #[.agg #[.bool false, .int .i64 av], .agg #[.bool bn, .int .i64 bv]] w fun e w' => e = .returned (.tuple #[.agg #[.bool true, .int .i64 0], .int .i64 0]) ∧ Ext w w' := by
  have HA := Lib.hid ha; have HO := Lib.hid ho; clear ho ha
  go_enter Tryd.func35, Tryd.ntmps35
  go_wp2_with fail
  refine (rodd_any false av _).mono ?_
  rw [HA.out]
  rintro e w1 ⟨rfl, hB1⟩
  have hc1 := hB1.cells; have hf1 := hB1.frees; have hz1 := hB1.size
  simp at hz1
  go_wp2_with fail
  refine (rodd_any bn bv _).mono ?_
  rw [HO.out]
  rintro e w2 ⟨rfl, hB2⟩
  go_wp2_with fail
  have hc := (hB1.trans hB2).cells; have hf := (hB1.trans hB2).frees; have hz := (hB1.trans hB2).size
  simp at hz
  refine (rnone_any _).mono ?_
  rintro e w9 ⟨rfl, hB9⟩
  have hc9 := hB9.cells; have hf9 := hB9.frees; have hz9 := hB9.size
  have l2 : w.heap.size + 1 + 1 < w2.heap.size := by omega
  have l9 : w.heap.size + 1 + 1 < w9.heap.size := by omega
  go_wp2_with fail
  refine bodyPost_ret (v := .tuple #[.agg #[.bool true, .int .i64 0], .int .i64 0]) (by simp [results, Tryd.results35, go_sem, hc, hc9, l2]) rfl ⟨rfl, ?_⟩
  repeat (first | exact Ext.refl _ | refine Ext.set ?_ (by dsimp only; omega) _ | refine Ext.alloc ?_ _ | refine Ext.drew ?_ | refine (Ext.trans ?_ (by assumption)))

theorem radd_ok (av bv : Int) (w : World) (ha : oddB false av = false) (hb : oddB false bv = false) {r1 : Bool} {r2 r3 : Int} (hr : fitS (av + bv) = ((r1, r2), r3)) : Calls Tryd.prog 35 #[.agg #[.bool false, .int .i64 av], .agg #[.bool false, .int .i64 bv]] w fun e w' => e = .returned (.tuple #[.agg #[.bool r1, .int .i64 r2], .int .i64 r3]) ∧ Ext w w' := by
  obtain ⟨_, a1, a2⟩ := oddB_false ha
  obtain ⟨_, b1, b2⟩ := oddB_false hb
  have HR := Lib.hid hr; clear hr
  have HA := Lib.hid ha; have HO := Lib.hid hb; clear hb ha
  go_enter Tryd.func35, Tryd.ntmps35
  go_wp2_with fail
  refine (rodd_any false av _).mono ?_
  rw [HA.out]
  rintro e w1 ⟨rfl, hB1⟩
  have hc1 := hB1.cells; have hf1 := hB1.frees; have hz1 := hB1.size
  simp at hz1
  go_wp2_with fail
  refine (rodd_any false bv _).mono ?_
  rw [HO.out]
  rintro e w2 ⟨rfl, hB2⟩
  have hc2 := (hB1.trans hB2).cells; have hf2 := (hB1.trans hB2).frees; have hz2 := hB2.size
  go_wp2_with fail
  refine (rfit_any _ _ HR.out).mono ?_
  rintro e w3 ⟨rfl, hB3⟩
  have hc3 := ((hB1.trans hB2).trans hB3).cells; have hf3 := ((hB1.trans hB2).trans hB3).frees; have hz3 := hB3.size
  go_wp2_with fail
  refine bodyPost_ret (v := .tuple #[.agg #[.bool r1, .int .i64 r2], .int .i64 r3]) (by simp [results, Tryd.results35, go_sem, hc3]) rfl ⟨rfl, ?_⟩
  repeat (first | exact Ext.refl _ | refine Ext.set ?_ (by dsimp only; omega) _ | refine Ext.alloc ?_ _ | refine Ext.drew ?_ | refine (Ext.trans ?_ (by assumption)))

theorem radd_any (an bn : Bool) (av bv : Int) (w : World) : Calls Tryd.prog 35 #[.agg #[.bool an, .int .i64 av], .agg #[.bool bn, .int .i64 bv]] w fun e w' => e = .returned (.tuple #[.agg #[.bool (two an bn av bv (fitS (av + bv))).1.1, .int .i64 (two an bn av bv (fitS (av + bv))).1.2], .int .i64 (two an bn av bv (fitS (av + bv))).2]) ∧ Ext w w' := by
  by_cases h : oddB an av = true
  · rw [two, if_pos (by rw [h]; rfl)]; exact radd_odd1 an bn av bv w h
  · have h1 : oddB an av = false := by simpa using h
    by_cases h' : oddB bn bv = true
    · rw [two, if_pos (by rw [h', h1]; rfl)]
      obtain ⟨rfl, _, _⟩ := oddB_false h1
      exact radd_odd2 bn av bv w h1 h'
    · have h2 : oddB bn bv = false := by simpa using h'
      rw [two, if_neg (by rw [h1, h2]; decide)]
      obtain ⟨rfl, a1, a2⟩ := oddB_false h1
      obtain ⟨rfl, b1, b2⟩ := oddB_false h2
      exact radd_ok av bv w h1 h2 rfl
theorem rsub_odd1 (an bn : Bool) (av bv : Int) (w : World) (ho : oddB an av = true) : Calls Tryd.prog 36 #[.agg #[.bool an, .int .i64 av], .agg #[.bool bn, .int .i64 bv]] w fun e w' => e = .returned (.tuple #[.agg #[.bool true, .int .i64 0], .int .i64 0]) ∧ Ext w w' := by
  have HO := Lib.hid ho; clear ho
  go_enter Tryd.func36, Tryd.ntmps36
  go_wp2_with fail
  refine (rodd_any an av _).mono ?_
  rw [HO.out]
  rintro e w1 ⟨rfl, hB1⟩
  have hc1 := hB1.cells; have hf1 := hB1.frees; have hz1 := hB1.size
  simp at hz1
  go_wp2_with fail
  have hc := hB1.cells; have hf := hB1.frees; have hz := hB1.size
  simp at hz
  refine (rnone_any _).mono ?_
  rintro e w9 ⟨rfl, hB9⟩
  have hc9 := hB9.cells; have hf9 := hB9.frees; have hz9 := hB9.size
  have l2 : w.heap.size + 1 + 1 < w1.heap.size := by omega
  have l9 : w.heap.size + 1 + 1 < w9.heap.size := by omega
  go_wp2_with fail
  refine bodyPost_ret (v := .tuple #[.agg #[.bool true, .int .i64 0], .int .i64 0]) (by simp [results, Tryd.results36, go_sem, hc, hc9, l2]) rfl ⟨rfl, ?_⟩
  repeat (first | exact Ext.refl _ | refine Ext.set ?_ (by dsimp only; omega) _ | refine Ext.alloc ?_ _ | refine Ext.drew ?_ | refine (Ext.trans ?_ (by assumption)))

theorem rsub_odd2 (bn : Bool) (av bv : Int) (w : World) (ha : oddB false av = false) (ho : oddB bn bv = true) : Calls Tryd.prog 36 #[.agg #[.bool false, .int .i64 av], .agg #[.bool bn, .int .i64 bv]] w fun e w' => e = .returned (.tuple #[.agg #[.bool true, .int .i64 0], .int .i64 0]) ∧ Ext w w' := by
  have HA := Lib.hid ha; have HO := Lib.hid ho; clear ho ha
  go_enter Tryd.func36, Tryd.ntmps36
  go_wp2_with fail
  refine (rodd_any false av _).mono ?_
  rw [HA.out]
  rintro e w1 ⟨rfl, hB1⟩
  have hc1 := hB1.cells; have hf1 := hB1.frees; have hz1 := hB1.size
  simp at hz1
  go_wp2_with fail
  refine (rodd_any bn bv _).mono ?_
  rw [HO.out]
  rintro e w2 ⟨rfl, hB2⟩
  go_wp2_with fail
  have hc := (hB1.trans hB2).cells; have hf := (hB1.trans hB2).frees; have hz := (hB1.trans hB2).size
  simp at hz
  refine (rnone_any _).mono ?_
  rintro e w9 ⟨rfl, hB9⟩
  have hc9 := hB9.cells; have hf9 := hB9.frees; have hz9 := hB9.size
  have l2 : w.heap.size + 1 + 1 < w2.heap.size := by omega
  have l9 : w.heap.size + 1 + 1 < w9.heap.size := by omega
  go_wp2_with fail
  refine bodyPost_ret (v := .tuple #[.agg #[.bool true, .int .i64 0], .int .i64 0]) (by simp [results, Tryd.results36, go_sem, hc, hc9, l2]) rfl ⟨rfl, ?_⟩
  repeat (first | exact Ext.refl _ | refine Ext.set ?_ (by dsimp only; omega) _ | refine Ext.alloc ?_ _ | refine Ext.drew ?_ | refine (Ext.trans ?_ (by assumption)))

theorem rsub_ok (av bv : Int) (w : World) (ha : oddB false av = false) (hb : oddB false bv = false) {r1 : Bool} {r2 r3 : Int} (hr : fitS (av - bv) = ((r1, r2), r3)) : Calls Tryd.prog 36 #[.agg #[.bool false, .int .i64 av], .agg #[.bool false, .int .i64 bv]] w fun e w' => e = .returned (.tuple #[.agg #[.bool r1, .int .i64 r2], .int .i64 r3]) ∧ Ext w w' := by
  obtain ⟨_, a1, a2⟩ := oddB_false ha
  obtain ⟨_, b1, b2⟩ := oddB_false hb
  have HR := Lib.hid hr; clear hr
  have HA := Lib.hid ha; have HO := Lib.hid hb; clear hb ha
  go_enter Tryd.func36, Tryd.ntmps36
  go_wp2_with fail
  refine (rodd_any false av _).mono ?_
  rw [HA.out]
  rintro e w1 ⟨rfl, hB1⟩
  have hc1 := hB1.cells; have hf1 := hB1.frees; have hz1 := hB1.size
  simp at hz1
  go_wp2_with fail
  refine (rodd_any false bv _).mono ?_
  rw [HO.out]
  rintro e w2 ⟨rfl, hB2⟩
  have hc2 := (hB1.trans hB2).cells; have hf2 := (hB1.trans hB2).frees; have hz2 := hB2.size
  go_wp2_with fail
  refine (rfit_any _ _ HR.out).mono ?_
  rintro e w3 ⟨rfl, hB3⟩
  have hc3 := ((hB1.trans hB2).trans hB3).cells; have hf3 := ((hB1.trans hB2).trans hB3).frees; have hz3 := hB3.size
  go_wp2_with fail
  refine bodyPost_ret (v := .tuple #[.agg #[.bool r1, .int .i64 r2], .int .i64 r3]) (by simp [results, Tryd.results36, go_sem, hc3]) rfl ⟨rfl, ?_⟩
  repeat (first | exact Ext.refl _ | refine Ext.set ?_ (by dsimp only; omega) _ | refine Ext.alloc ?_ _ | refine Ext.drew ?_ | refine (Ext.trans ?_ (by assumption)))

theorem rsub_any (an bn : Bool) (av bv : Int) (w : World) : Calls Tryd.prog 36 #[.agg #[.bool an, .int .i64 av], .agg #[.bool bn, .int .i64 bv]] w fun e w' => e = .returned (.tuple #[.agg #[.bool (two an bn av bv (fitS (av - bv))).1.1, .int .i64 (two an bn av bv (fitS (av - bv))).1.2], .int .i64 (two an bn av bv (fitS (av - bv))).2]) ∧ Ext w w' := by
  by_cases h : oddB an av = true
  · rw [two, if_pos (by rw [h]; rfl)]; exact rsub_odd1 an bn av bv w h
  · have h1 : oddB an av = false := by simpa using h
    by_cases h' : oddB bn bv = true
    · rw [two, if_pos (by rw [h', h1]; rfl)]
      obtain ⟨rfl, _, _⟩ := oddB_false h1
      exact rsub_odd2 bn av bv w h1 h'
    · have h2 : oddB bn bv = false := by simpa using h'
      rw [two, if_neg (by rw [h1, h2]; decide)]
      obtain ⟨rfl, a1, a2⟩ := oddB_false h1
      obtain ⟨rfl, b1, b2⟩ := oddB_false h2
      exact rsub_ok av bv w h1 h2 rfl
theorem emod_abs (x b : Int) : x % b = x % absI b := by
  by_cases h : b < 0
  · rw [absI_neg h, Int.emod_neg]
  · rw [absI_pos (by omega)]
theorem rmod_odd1 (an bn : Bool) (av bv : Int) (w : World) (ho : oddB an av = true) : Calls Tryd.prog 39 #[.agg #[.bool an, .int .i64 av], .agg #[.bool bn, .int .i64 bv]] w fun e w' => e = .returned (.tuple #[.agg #[.bool true, .int .i64 0], .int .i64 0]) ∧ Ext w w' := by
  have HO := Lib.hid ho; clear ho
  go_enter Tryd.func39, Tryd.ntmps39
  go_wp2_with fail
  refine (rodd_any an av _).mono ?_
  rw [HO.out]
  rintro e w1 ⟨rfl, hB1⟩
  have hc1 := hB1.cells; have hf1 := hB1.frees; have hz1 := hB1.size
  simp at hz1
  go_wp2_with fail
  have hc := hB1.cells; have hf := hB1.frees; have hz := hB1.size
  simp at hz
  refine (rnone_any _).mono ?_
  rintro e w9 ⟨rfl, hB9⟩
  have hc9 := hB9.cells; have hf9 := hB9.frees; have hz9 := hB9.size
  have l2 : w.heap.size + 1 + 1 < w1.heap.size := by omega
  have l9 : w.heap.size + 1 + 1 < w9.heap.size := by omega
  go_wp2_with fail
  refine bodyPost_ret (v := .tuple #[.agg #[.bool true, .int .i64 0], .int .i64 0]) (by simp [results, Tryd.results39, go_sem, hc, hc9, l2]) rfl ⟨rfl, ?_⟩
  repeat (first | exact Ext.refl _ | refine Ext.set ?_ (by dsimp only; omega) _ | refine Ext.alloc ?_ _ | refine Ext.drew ?_ | refine (Ext.trans ?_ (by assumption)))

theorem rmod_odd2 (bn : Bool) (av bv : Int) (w : World) (ha : oddB false av = false) (ho : oddB bn bv = true) : Calls Tryd.prog 39 #[.agg #[.bool false, .int .i64 av], .agg #[.bool bn, .int .i64 bv]] w fun e w' => e = .returned (.tuple #[.agg #[.bool true, .int .i64 0], .int .i64 0]) ∧ Ext w w' := by
  have HA := Lib.hid ha; have HO := Lib.hid ho; clear ho ha
  go_enter Tryd.func39, Tryd.ntmps39
  go_wp2_with fail
  refine (rodd_any false av _).mono ?_
  rw [HA.out]
  rintro e w1 ⟨rfl, hB1⟩
  have hc1 := hB1.cells; have hf1 := hB1.frees; have hz1 := hB1.size
  simp at hz1
  go_wp2_with fail
  refine (rodd_any bn bv _).mono ?_
  rw [HO.out]
  rintro e w2 ⟨rfl, hB2⟩
  go_wp2_with fail
  have hc := (hB1.trans hB2).cells; have hf := (hB1.trans hB2).frees; have hz := (hB1.trans hB2).size
  simp at hz
  refine (rnone_any _).mono ?_
  rintro e w9 ⟨rfl, hB9⟩
  have hc9 := hB9.cells; have hf9 := hB9.frees; have hz9 := hB9.size
  have l2 : w.heap.size + 1 + 1 < w2.heap.size := by omega
  have l9 : w.heap.size + 1 + 1 < w9.heap.size := by omega
  go_wp2_with fail
  refine bodyPost_ret (v := .tuple #[.agg #[.bool true, .int .i64 0], .int .i64 0]) (by simp [results, Tryd.results39, go_sem, hc, hc9, l2]) rfl ⟨rfl, ?_⟩
  repeat (first | exact Ext.refl _ | refine Ext.set ?_ (by dsimp only; omega) _ | refine Ext.alloc ?_ _ | refine Ext.drew ?_ | refine (Ext.trans ?_ (by assumption)))

theorem rmod_zero (av bv : Int) (w : World) (ha : oddB false av = false) (hb : oddB false bv = false) (h0 : bv = 0) : Calls Tryd.prog 39 #[.agg #[.bool false, .int .i64 av], .agg #[.bool false, .int .i64 bv]] w fun e w' => e = .returned (.tuple #[.agg #[.bool false, .int .i64 0], .int .i64 67]) ∧ Ext w w' := by
  obtain ⟨_, a1, a2⟩ := oddB_false ha
  obtain ⟨_, b1, b2⟩ := oddB_false hb
  subst h0
  have HA := Lib.hid ha; have HO := Lib.hid hb; clear hb ha
  go_enter Tryd.func39, Tryd.ntmps39
  go_wp2_with fail
  refine (rodd_any false av _).mono ?_
  rw [HA.out]
  rintro e w1 ⟨rfl, hB1⟩
  have hc1 := hB1.cells; have hf1 := hB1.frees; have hz1 := hB1.size
  simp at hz1
  go_wp2_with fail
  refine (rodd_any false 0 _).mono ?_
  rw [HO.out]
  rintro e w2 ⟨rfl, hB2⟩
  have hc2 := (hB1.trans hB2).cells; have hf2 := (hB1.trans hB2).frees; have hz2 := hB2.size
  go_wp2_with fail
  refine bodyPost_ret (v := .tuple #[.agg #[.bool false, .int .i64 0], .int .i64 67]) (by simp [results, Tryd.results39, go_sem, hc2]) rfl ⟨rfl, ?_⟩
  have hz3 := hz1
  repeat (first | exact Ext.refl _ | refine Ext.set ?_ (by dsimp only; omega) _ | refine Ext.alloc ?_ _ | refine Ext.drew ?_ | refine (Ext.trans ?_ (by assumption)))

theorem rmod_neg (av bv : Int) (w : World) (ha : oddB false av = false) (hb : oddB false bv = false) (h0 : ¬ bv = 0) (hs : av < 0) : Calls Tryd.prog 39 #[.agg #[.bool false, .int .i64 av], .agg #[.bool false, .int .i64 bv]] w fun e w' => e = .returned (.tuple #[.agg #[.bool false, .int .i64 (av.tmod bv)], .int .i64 0]) ∧ Ext w w' := by
  obtain ⟨_, a1, a2⟩ := oddB_false ha
  obtain ⟨_, b1, b2⟩ := oddB_false hb
  have hne : (bv == 0) = false := by simpa using h0
  have v1 := absI_nonneg av
  have v2 : absI av ≤ 1000000000000000 := by unfold absI; omega
  have v3 : 1 ≤ absI bv := by unfold absI; omega
  have v4 : absI bv ≤ 1000000000000000 := by unfold absI; omega
  have d0 : 0 ≤ absI av / absI bv * absI bv := Int.mul_nonneg (Int.ediv_nonneg v1 (by omega)) (by omega)
  have d1 : absI av / absI bv * absI bv ≤ absI av := Int.ediv_mul_le _ (by omega)
  have d2 : absI av / absI bv ≤ absI av := Int.ediv_le_self _ v1
  have d3 : 0 ≤ absI av / absI bv := Int.ediv_nonneg v1 (by omega)
  have e : av.tmod bv = -(absI av - absI av / absI bv * absI bv) := by
    have h := Int.mul_ediv_add_emod (absI av) (absI bv)
    rw [Int.mul_comm] at h
    have h2 : av.tmod bv = -(absI av % absI bv) := by
      rw [show av.tmod bv = (-(-av)).tmod bv by rw [Int.neg_neg], Int.neg_tmod, Int.tmod_eq_emod_of_nonneg (by omega)]
      rw [absI_neg hs, emod_abs]
    omega
  rw [e]
  clear e h0
  have HA := Lib.hid ha; have HO := Lib.hid hb; clear hb ha
  go_enter Tryd.func39, Tryd.ntmps39
  go_wp2_with fail
  refine (rodd_any false av _).mono ?_
  rw [HA.out]
  rintro e w1 ⟨rfl, hB1⟩
  have hc1 := hB1.cells; have hf1 := hB1.frees; have hz1 := hB1.size
  simp at hz1
  go_wp2_with fail
  refine (rodd_any false bv _).mono ?_
  rw [HO.out]
  rintro e w2 ⟨rfl, hB2⟩
  have hc2 := (hB1.trans hB2).cells; have hf2 := (hB1.trans hB2).frees; have hz2 := hB2.size
  go_wp2_with fail
  refine (rabs_any av _ (by omega) (by omega)).mono ?_
  rintro e w' ⟨rfl, rfl⟩
  go_wp2_with fail
  refine (rabs_any bv _ (by omega) (by omega)).mono ?_
  rintro e w' ⟨rfl, rfl⟩
  go_wp2_with fail
  refine bodyPost_ret (v := .tuple #[.agg #[.bool false, .int .i64 (-(absI av - absI av / absI bv * absI bv))], .int .i64 0]) (by simp [results, Tryd.results39, go_sem, hc2]) rfl ⟨rfl, ?_⟩
  repeat (first | exact Ext.refl _ | refine Ext.set ?_ (by dsimp only; omega) _ | refine Ext.alloc ?_ _ | refine Ext.drew ?_ | refine (Ext.trans ?_ (by assumption)))

theorem rmod_pos (av bv : Int) (w : World) (ha : oddB false av = false) (hb : oddB false bv = false) (h0 : ¬ bv = 0) (hs : 0 ≤ av) : Calls Tryd.prog 39 #[.agg #[.bool false, .int .i64 av], .agg #[.bool false, .int .i64 bv]] w fun e w' => e = .returned (.tuple #[.agg #[.bool false, .int .i64 (av.tmod bv)], .int .i64 0]) ∧ Ext w w' := by
  obtain ⟨_, a1, a2⟩ := oddB_false ha
  obtain ⟨_, b1, b2⟩ := oddB_false hb
  have hne : (bv == 0) = false := by simpa using h0
  have v1 := absI_nonneg av
  have v2 : absI av ≤ 1000000000000000 := by unfold absI; omega
  have v3 : 1 ≤ absI bv := by unfold absI; omega
  have v4 : absI bv ≤ 1000000000000000 := by unfold absI; omega
  have d0 : 0 ≤ absI av / absI bv * absI bv := Int.mul_nonneg (Int.ediv_nonneg v1 (by omega)) (by omega)
  have d1 : absI av / absI bv * absI bv ≤ absI av := Int.ediv_mul_le _ (by omega)
  have d2 : absI av / absI bv ≤ absI av := Int.ediv_le_self _ v1
  have d3 : 0 ≤ absI av / absI bv := Int.ediv_nonneg v1 (by omega)
  have e : av.tmod bv = (absI av - absI av / absI bv * absI bv) := by
    have h := Int.mul_ediv_add_emod (absI av) (absI bv)
    rw [Int.mul_comm] at h
    have h2 : av.tmod bv = (absI av % absI bv) := by
      rw [Int.tmod_eq_emod_of_nonneg hs]
      rw [absI_pos hs, emod_abs]
    omega
  rw [e]
  clear e h0
  have HA := Lib.hid ha; have HO := Lib.hid hb; clear hb ha
  go_enter Tryd.func39, Tryd.ntmps39
  go_wp2_with fail
  refine (rodd_any false av _).mono ?_
  rw [HA.out]
  rintro e w1 ⟨rfl, hB1⟩
  have hc1 := hB1.cells; have hf1 := hB1.frees; have hz1 := hB1.size
  simp at hz1
  go_wp2_with fail
  refine (rodd_any false bv _).mono ?_
  rw [HO.out]
  rintro e w2 ⟨rfl, hB2⟩
  have hc2 := (hB1.trans hB2).cells; have hf2 := (hB1.trans hB2).frees; have hz2 := hB2.size
  go_wp2_with fail
  refine (rabs_any av _ (by omega) (by omega)).mono ?_
  rintro e w' ⟨rfl, rfl⟩
  go_wp2_with fail
  refine (rabs_any bv _ (by omega) (by omega)).mono ?_
  rintro e w' ⟨rfl, rfl⟩
  go_wp2_with fail
  refine bodyPost_ret (v := .tuple #[.agg #[.bool false, .int .i64 ((absI av - absI av / absI bv * absI bv))], .int .i64 0]) (by simp [results, Tryd.results39, go_sem, hc2]) rfl ⟨rfl, ?_⟩
  repeat (first | exact Ext.refl _ | refine Ext.set ?_ (by dsimp only; omega) _ | refine Ext.alloc ?_ _ | refine Ext.drew ?_ | refine (Ext.trans ?_ (by assumption)))

theorem rmod_any (an bn : Bool) (av bv : Int) (w : World) : Calls Tryd.prog 39 #[.agg #[.bool an, .int .i64 av], .agg #[.bool bn, .int .i64 bv]] w fun e w' => e = .returned (.tuple #[.agg #[.bool (two an bn av bv (modS av bv)).1.1, .int .i64 (two an bn av bv (modS av bv)).1.2], .int .i64 (two an bn av bv (modS av bv)).2]) ∧ Ext w w' := by
  by_cases h : oddB an av = true
  · rw [two, if_pos (by rw [h]; rfl)]; exact rmod_odd1 an bn av bv w h
  · have h1 : oddB an av = false := by simpa using h
    by_cases h' : oddB bn bv = true
    · rw [two, if_pos (by rw [h', h1]; rfl)]
      obtain ⟨rfl, _, _⟩ := oddB_false h1
      exact rmod_odd2 bn av bv w h1 h'
    · have h2 : oddB bn bv = false := by simpa using h'
      rw [two, if_neg (by rw [h1, h2]; decide)]
      obtain ⟨rfl, a1, a2⟩ := oddB_false h1
      obtain ⟨rfl, b1, b2⟩ := oddB_false h2
      by_cases h0 : bv = 0
      · rw [modS, if_pos h0]; exact rmod_zero av bv w h1 h2 h0
      · rw [modS, if_neg h0]
        by_cases hs : av < 0
        · exact rmod_neg av bv w h1 h2 h0 hs
        · exact rmod_pos av bv w h1 h2 h0 (by omega)
end Go.Proofs.YtcdpjgdaofgpcaaDoor
