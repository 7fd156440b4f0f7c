/-
  The walks, where one number is none, of recensionlaw03.DeciOrder: it returns true, whatever the three numbers. Helper lemmas; the statement itself is proved in the row's text.
-/
import Derived.Test.YtcdpjgdaofgpcaaDoorDeciAwake
import Derived.Test.YtcdpjgdaofgpcaaDoorLawPlain
import Derived.Test.YtcdpjgdaofgpcaaDoorRegion
import Derived.BigQuiet
namespace Go.Proofs.YtcdpjgdaofgpcaaDoor
open Go.RowKit
set_option maxRecDepth 100000
set_option linter.unusedVariables false
set_option linter.unusedSimpArgs false
theorem floorV_in (av : Int) (h : oddB false av = false) : oddB false (floorV av) = false := by
  obtain ⟨_, a1, a2⟩ := oddB_false h
  unfold floorV
  exact oddB_no _ (by omega) (by omega)
theorem ceilV_ge (av : Int) : av ≤ ceilV av := by unfold ceilV floorV; omega
theorem ceilV_in (av : Int) (h : oddB false av = false) : oddB false (ceilV av) = false := by
  obtain ⟨_, a1, a2⟩ := oddB_false h
  unfold ceilV floorV
  exact oddB_no _ (by omega) (by omega)
set_option maxHeartbeats 4000000 in
theorem order_odd1 (an bn cn : Bool) (av bv cv : Int) (w : World) (G : Glob w) (ha : oddB an av = true) :
    Calls Tryd.prog 7 #[.agg #[.bool an, .int .i64 av], .agg #[.bool bn, .int .i64 bv], .agg #[.bool cn, .int .i64 cv]] w fun e w' => e = .returned (.bool true) ∧ Ext w w' := by
  have ho : (oddB an av || oddB bn bv) = true := by rw [ha]; rfl
  have E0 : Hid (lessS an bn av bv = false) := by refine Lib.hid ?_; rw [lessS, ho]; rfl
  have E1 : Hid (lessS bn an bv av = false) := by refine Lib.hid ?_; rw [lessS, Bool.or_comm, ho]; rfl
  have E2 : Hid (equalS an bn av bv = false) := by refine Lib.hid ?_; rw [equalS, ho]; rfl
  have HA := Lib.hid ha
  clear ho ha
  go_enter Tryd.func7, Tryd.ntmps7
  go_wp2_with fail
  refine (awake3 _ (((G.alloc _).alloc _).alloc _)).mono ?_
  rintro e w1 ⟨rfl, hB1⟩
  have hz1 := hB1.size
  simp at hz1
  have l0_1 : w.heap.size < w1.heap.size := by omega
  have l1_1 : w.heap.size + 1 < w1.heap.size := by omega
  have l2_1 : w.heap.size + 1 + 1 < w1.heap.size := by omega
  have c0_0_1 : w1.cell? ⟨w.heap.size, 0, none⟩ = some (.bool an) := hB1.keep (by first | (simp; done) | (simp; omega)) (by simp [go_sem])
  have c0_1_1 : w1.cell? ⟨w.heap.size, 1, none⟩ = some (.int .i64 av) := hB1.keep (by first | (simp; done) | (simp; omega)) (by simp [go_sem])
  have c1_0_1 : w1.cell? ⟨w.heap.size + 1, 0, none⟩ = some (.bool bn) := hB1.keep (by first | (simp; done) | (simp; omega)) (by simp [go_sem])
  have c1_1_1 : w1.cell? ⟨w.heap.size + 1, 1, none⟩ = some (.int .i64 bv) := hB1.keep (by first | (simp; done) | (simp; omega)) (by simp [go_sem])
  have c2_0_1 : w1.cell? ⟨w.heap.size + 1 + 1, 0, none⟩ = some (.bool cn) := hB1.keep (by first | (simp; done) | (simp; omega)) (by simp [go_sem])
  have c2_1_1 : w1.cell? ⟨w.heap.size + 1 + 1, 1, none⟩ = some (.int .i64 cv) := hB1.keep (by first | (simp; done) | (simp; omega)) (by simp [go_sem])
  go_wp2_with fail
  refine (rodd_any an av _).mono ?_
  rw [HA.out]
  rintro e w2 ⟨rfl, hB2⟩
  have hz2 := hB2.size
  have l0_2 : w.heap.size < w2.heap.size := by omega
  have l1_2 : w.heap.size + 1 < w2.heap.size := by omega
  have l2_2 : w.heap.size + 1 + 1 < w2.heap.size := by omega
  have c0_0_2 : w2.cell? ⟨w.heap.size, 0, none⟩ = some (.bool an) := hB2.keep (by omega) c0_0_1
  have c0_1_2 : w2.cell? ⟨w.heap.size, 1, none⟩ = some (.int .i64 av) := hB2.keep (by omega) c0_1_1
  have c1_0_2 : w2.cell? ⟨w.heap.size + 1, 0, none⟩ = some (.bool bn) := hB2.keep (by omega) c1_0_1
  have c1_1_2 : w2.cell? ⟨w.heap.size + 1, 1, none⟩ = some (.int .i64 bv) := hB2.keep (by omega) c1_1_1
  have c2_0_2 : w2.cell? ⟨w.heap.size + 1 + 1, 0, none⟩ = some (.bool cn) := hB2.keep (by omega) c2_0_1
  have c2_1_2 : w2.cell? ⟨w.heap.size + 1 + 1, 1, none⟩ = some (.int .i64 cv) := hB2.keep (by omega) c2_1_1
  clear c0_0_1 c0_1_1 c1_0_1 c1_1_1 c2_0_1 c2_1_1 l0_1 l1_1 l2_1
  go_wp2_with fail
  refine (less_any an bn av bv _).mono ?_
  rw [E0.out]
  rintro e w3 ⟨rfl, hB3⟩
  have hz3 := hB3.size
  have l0_3 : w.heap.size < w3.heap.size := by omega
  have l1_3 : w.heap.size + 1 < w3.heap.size := by omega
  have l2_3 : w.heap.size + 1 + 1 < w3.heap.size := by omega
  have c0_0_3 : w3.cell? ⟨w.heap.size, 0, none⟩ = some (.bool an) := hB3.keep (by omega) c0_0_2
  have c0_1_3 : w3.cell? ⟨w.heap.size, 1, none⟩ = some (.int .i64 av) := hB3.keep (by omega) c0_1_2
  have c1_0_3 : w3.cell? ⟨w.heap.size + 1, 0, none⟩ = some (.bool bn) := hB3.keep (by omega) c1_0_2
  have c1_1_3 : w3.cell? ⟨w.heap.size + 1, 1, none⟩ = some (.int .i64 bv) := hB3.keep (by omega) c1_1_2
  have c2_0_3 : w3.cell? ⟨w.heap.size + 1 + 1, 0, none⟩ = some (.bool cn) := hB3.keep (by omega) c2_0_2
  have c2_1_3 : w3.cell? ⟨w.heap.size + 1 + 1, 1, none⟩ = some (.int .i64 cv) := hB3.keep (by omega) c2_1_2
  clear c0_0_2 c0_1_2 c1_0_2 c1_1_2 c2_0_2 c2_1_2 l0_2 l1_2 l2_2
  go_wp2_with fail
  refine (less_any bn an bv av _).mono ?_
  rw [E1.out]
  rintro e w4 ⟨rfl, hB4⟩
  have hz4 := hB4.size
  have l0_4 : w.heap.size < w4.heap.size := by omega
  have l1_4 : w.heap.size + 1 < w4.heap.size := by omega
  have l2_4 : w.heap.size + 1 + 1 < w4.heap.size := by omega
  have c0_0_4 : w4.cell? ⟨w.heap.size, 0, none⟩ = some (.bool an) := hB4.keep (by omega) c0_0_3
  have c0_1_4 : w4.cell? ⟨w.heap.size, 1, none⟩ = some (.int .i64 av) := hB4.keep (by omega) c0_1_3
  have c1_0_4 : w4.cell? ⟨w.heap.size + 1, 0, none⟩ = some (.bool bn) := hB4.keep (by omega) c1_0_3
  have c1_1_4 : w4.cell? ⟨w.heap.size + 1, 1, none⟩ = some (.int .i64 bv) := hB4.keep (by omega) c1_1_3
  have c2_0_4 : w4.cell? ⟨w.heap.size + 1 + 1, 0, none⟩ = some (.bool cn) := hB4.keep (by omega) c2_0_3
  have c2_1_4 : w4.cell? ⟨w.heap.size + 1 + 1, 1, none⟩ = some (.int .i64 cv) := hB4.keep (by omega) c2_1_3
  clear c0_0_3 c0_1_3 c1_0_3 c1_1_3 c2_0_3 c2_1_3 l0_3 l1_3 l2_3
  go_wp2_with fail
  refine (equal_any an bn av bv _).mono ?_
  rw [E2.out]
  rintro e w5 ⟨rfl, hB5⟩
  have hz5 := hB5.size
  have l0_5 : w.heap.size < w5.heap.size := by omega
  have l1_5 : w.heap.size + 1 < w5.heap.size := by omega
  have l2_5 : w.heap.size + 1 + 1 < w5.heap.size := by omega
  have c0_0_5 : w5.cell? ⟨w.heap.size, 0, none⟩ = some (.bool an) := hB5.keep (by omega) c0_0_4
  have c0_1_5 : w5.cell? ⟨w.heap.size, 1, none⟩ = some (.int .i64 av) := hB5.keep (by omega) c0_1_4
  have c1_0_5 : w5.cell? ⟨w.heap.size + 1, 0, none⟩ = some (.bool bn) := hB5.keep (by omega) c1_0_4
  have c1_1_5 : w5.cell? ⟨w.heap.size + 1, 1, none⟩ = some (.int .i64 bv) := hB5.keep (by omega) c1_1_4
  have c2_0_5 : w5.cell? ⟨w.heap.size + 1 + 1, 0, none⟩ = some (.bool cn) := hB5.keep (by omega) c2_0_4
  have c2_1_5 : w5.cell? ⟨w.heap.size + 1 + 1, 1, none⟩ = some (.int .i64 cv) := hB5.keep (by omega) c2_1_4
  clear c0_0_4 c0_1_4 c1_0_4 c1_1_4 c2_0_4 c2_1_4 l0_4 l1_4 l2_4
  go_wp2_with fail
  go_ret
  refine ⟨rfl, ?_⟩
  repeat (first | exact Ext.refl _ | refine Ext.set ?_ (by dsimp only; omega) _ | refine Ext.alloc ?_ _ | refine Ext.drew ?_ | refine (Ext.trans ?_ (by assumption)))
set_option maxHeartbeats 4000000 in
theorem order_odd2 (an bn cn : Bool) (av bv cv : Int) (w : World) (G : Glob w) (ha : oddB an av = false) (hb : oddB bn bv = true) :
    Calls Tryd.prog 7 #[.agg #[.bool an, .int .i64 av], .agg #[.bool bn, .int .i64 bv], .agg #[.bool cn, .int .i64 cv]] w fun e w' => e = .returned (.bool true) ∧ Ext w w' := by
  have ho : (oddB an av || oddB bn bv) = true := by rw [ha, hb]; rfl
  have E0 : Hid (lessS an bn av bv = false) := by refine Lib.hid ?_; rw [lessS, ho]; rfl
  have E1 : Hid (lessS bn an bv av = false) := by refine Lib.hid ?_; rw [lessS, Bool.or_comm, ho]; rfl
  have E2 : Hid (equalS an bn av bv = false) := by refine Lib.hid ?_; rw [equalS, ho]; rfl
  have HA := Lib.hid ha
  clear ho ha
  have HB := Lib.hid hb; clear hb
  go_enter Tryd.func7, Tryd.ntmps7
  go_wp2_with fail
  refine (awake3 _ (((G.alloc _).alloc _).alloc _)).mono ?_
  rintro e w1 ⟨rfl, hB1⟩
  have hz1 := hB1.size
  simp at hz1
  have l0_1 : w.heap.size < w1.heap.size := by omega
  have l1_1 : w.heap.size + 1 < w1.heap.size := by omega
  have l2_1 : w.heap.size + 1 + 1 < w1.heap.size := by omega
  have c0_0_1 : w1.cell? ⟨w.heap.size, 0, none⟩ = some (.bool an) := hB1.keep (by first | (simp; done) | (simp; omega)) (by simp [go_sem])
  have c0_1_1 : w1.cell? ⟨w.heap.size, 1, none⟩ = some (.int .i64 av) := hB1.keep (by first | (simp; done) | (simp; omega)) (by simp [go_sem])
  have c1_0_1 : w1.cell? ⟨w.heap.size + 1, 0, none⟩ = some (.bool bn) := hB1.keep (by first | (simp; done) | (simp; omega)) (by simp [go_sem])
  have c1_1_1 : w1.cell? ⟨w.heap.size + 1, 1, none⟩ = some (.int .i64 bv) := hB1.keep (by first | (simp; done) | (simp; omega)) (by simp [go_sem])
  have c2_0_1 : w1.cell? ⟨w.heap.size + 1 + 1, 0, none⟩ = some (.bool cn) := hB1.keep (by first | (simp; done) | (simp; omega)) (by simp [go_sem])
  have c2_1_1 : w1.cell? ⟨w.heap.size + 1 + 1, 1, none⟩ = some (.int .i64 cv) := hB1.keep (by first | (simp; done) | (simp; omega)) (by simp [go_sem])
  go_wp2_with fail
  refine (rodd_any an av _).mono ?_
  rw [HA.out]
  rintro e w2 ⟨rfl, hB2⟩
  have hz2 := hB2.size
  have l0_2 : w.heap.size < w2.heap.size := by omega
  have l1_2 : w.heap.size + 1 < w2.heap.size := by omega
  have l2_2 : w.heap.size + 1 + 1 < w2.heap.size := by omega
  have c0_0_2 : w2.cell? ⟨w.heap.size, 0, none⟩ = some (.bool an) := hB2.keep (by omega) c0_0_1
  have c0_1_2 : w2.cell? ⟨w.heap.size, 1, none⟩ = some (.int .i64 av) := hB2.keep (by omega) c0_1_1
  have c1_0_2 : w2.cell? ⟨w.heap.size + 1, 0, none⟩ = some (.bool bn) := hB2.keep (by omega) c1_0_1
  have c1_1_2 : w2.cell? ⟨w.heap.size + 1, 1, none⟩ = some (.int .i64 bv) := hB2.keep (by omega) c1_1_1
  have c2_0_2 : w2.cell? ⟨w.heap.size + 1 + 1, 0, none⟩ = some (.bool cn) := hB2.keep (by omega) c2_0_1
  have c2_1_2 : w2.cell? ⟨w.heap.size + 1 + 1, 1, none⟩ = some (.int .i64 cv) := hB2.keep (by omega) c2_1_1
  clear c0_0_1 c0_1_1 c1_0_1 c1_1_1 c2_0_1 c2_1_1 l0_1 l1_1 l2_1
  go_wp2_with fail
  refine (rodd_any bn bv _).mono ?_
  rw [HB.out]
  rintro e w3 ⟨rfl, hB3⟩
  have hz3 := hB3.size
  have l0_3 : w.heap.size < w3.heap.size := by omega
  have l1_3 : w.heap.size + 1 < w3.heap.size := by omega
  have l2_3 : w.heap.size + 1 + 1 < w3.heap.size := by omega
  have c0_0_3 : w3.cell? ⟨w.heap.size, 0, none⟩ = some (.bool an) := hB3.keep (by omega) c0_0_2
  have c0_1_3 : w3.cell? ⟨w.heap.size, 1, none⟩ = some (.int .i64 av) := hB3.keep (by omega) c0_1_2
  have c1_0_3 : w3.cell? ⟨w.heap.size + 1, 0, none⟩ = some (.bool bn) := hB3.keep (by omega) c1_0_2
  have c1_1_3 : w3.cell? ⟨w.heap.size + 1, 1, none⟩ = some (.int .i64 bv) := hB3.keep (by omega) c1_1_2
  have c2_0_3 : w3.cell? ⟨w.heap.size + 1 + 1, 0, none⟩ = some (.bool cn) := hB3.keep (by omega) c2_0_2
  have c2_1_3 : w3.cell? ⟨w.heap.size + 1 + 1, 1, none⟩ = some (.int .i64 cv) := hB3.keep (by omega) c2_1_2
  clear c0_0_2 c0_1_2 c1_0_2 c1_1_2 c2_0_2 c2_1_2 l0_2 l1_2 l2_2
  go_wp2_with fail
  refine (less_any an bn av bv _).mono ?_
  rw [E0.out]
  rintro e w4 ⟨rfl, hB4⟩
  have hz4 := hB4.size
  have l0_4 : w.heap.size < w4.heap.size := by omega
  have l1_4 : w.heap.size + 1 < w4.heap.size := by omega
  have l2_4 : w.heap.size + 1 + 1 < w4.heap.size := by omega
  have c0_0_4 : w4.cell? ⟨w.heap.size, 0, none⟩ = some (.bool an) := hB4.keep (by omega) c0_0_3
  have c0_1_4 : w4.cell? ⟨w.heap.size, 1, none⟩ = some (.int .i64 av) := hB4.keep (by omega) c0_1_3
  have c1_0_4 : w4.cell? ⟨w.heap.size + 1, 0, none⟩ = some (.bool bn) := hB4.keep (by omega) c1_0_3
  have c1_1_4 : w4.cell? ⟨w.heap.size + 1, 1, none⟩ = some (.int .i64 bv) := hB4.keep (by omega) c1_1_3
  have c2_0_4 : w4.cell? ⟨w.heap.size + 1 + 1, 0, none⟩ = some (.bool cn) := hB4.keep (by omega) c2_0_3
  have c2_1_4 : w4.cell? ⟨w.heap.size + 1 + 1, 1, none⟩ = some (.int .i64 cv) := hB4.keep (by omega) c2_1_3
  clear c0_0_3 c0_1_3 c1_0_3 c1_1_3 c2_0_3 c2_1_3 l0_3 l1_3 l2_3
  go_wp2_with fail
  refine (less_any bn an bv av _).mono ?_
  rw [E1.out]
  rintro e w5 ⟨rfl, hB5⟩
  have hz5 := hB5.size
  have l0_5 : w.heap.size < w5.heap.size := by omega
  have l1_5 : w.heap.size + 1 < w5.heap.size := by omega
  have l2_5 : w.heap.size + 1 + 1 < w5.heap.size := by omega
  have c0_0_5 : w5.cell? ⟨w.heap.size, 0, none⟩ = some (.bool an) := hB5.keep (by omega) c0_0_4
  have c0_1_5 : w5.cell? ⟨w.heap.size, 1, none⟩ = some (.int .i64 av) := hB5.keep (by omega) c0_1_4
  have c1_0_5 : w5.cell? ⟨w.heap.size + 1, 0, none⟩ = some (.bool bn) := hB5.keep (by omega) c1_0_4
  have c1_1_5 : w5.cell? ⟨w.heap.size + 1, 1, none⟩ = some (.int .i64 bv) := hB5.keep (by omega) c1_1_4
  have c2_0_5 : w5.cell? ⟨w.heap.size + 1 + 1, 0, none⟩ = some (.bool cn) := hB5.keep (by omega) c2_0_4
  have c2_1_5 : w5.cell? ⟨w.heap.size + 1 + 1, 1, none⟩ = some (.int .i64 cv) := hB5.keep (by omega) c2_1_4
  clear c0_0_4 c0_1_4 c1_0_4 c1_1_4 c2_0_4 c2_1_4 l0_4 l1_4 l2_4
  go_wp2_with fail
  refine (equal_any an bn av bv _).mono ?_
  rw [E2.out]
  rintro e w6 ⟨rfl, hB6⟩
  have hz6 := hB6.size
  have l0_6 : w.heap.size < w6.heap.size := by omega
  have l1_6 : w.heap.size + 1 < w6.heap.size := by omega
  have l2_6 : w.heap.size + 1 + 1 < w6.heap.size := by omega
  have c0_0_6 : w6.cell? ⟨w.heap.size, 0, none⟩ = some (.bool an) := hB6.keep (by omega) c0_0_5
  have c0_1_6 : w6.cell? ⟨w.heap.size, 1, none⟩ = some (.int .i64 av) := hB6.keep (by omega) c0_1_5
  have c1_0_6 : w6.cell? ⟨w.heap.size + 1, 0, none⟩ = some (.bool bn) := hB6.keep (by omega) c1_0_5
  have c1_1_6 : w6.cell? ⟨w.heap.size + 1, 1, none⟩ = some (.int .i64 bv) := hB6.keep (by omega) c1_1_5
  have c2_0_6 : w6.cell? ⟨w.heap.size + 1 + 1, 0, none⟩ = some (.bool cn) := hB6.keep (by omega) c2_0_5
  have c2_1_6 : w6.cell? ⟨w.heap.size + 1 + 1, 1, none⟩ = some (.int .i64 cv) := hB6.keep (by omega) c2_1_5
  clear c0_0_5 c0_1_5 c1_0_5 c1_1_5 c2_0_5 c2_1_5 l0_5 l1_5 l2_5
  go_wp2_with fail
  go_ret
  refine ⟨rfl, ?_⟩
  repeat (first | exact Ext.refl _ | refine Ext.set ?_ (by dsimp only; omega) _ | refine Ext.alloc ?_ _ | refine Ext.drew ?_ | refine (Ext.trans ?_ (by assumption)))
end Go.Proofs.YtcdpjgdaofgpcaaDoor
