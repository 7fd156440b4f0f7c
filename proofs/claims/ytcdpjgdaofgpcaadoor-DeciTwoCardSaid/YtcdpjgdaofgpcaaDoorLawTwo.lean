/-
  The walk of recensionlaw03.DeciTwo: it returns true, whatever the two numbers. Helper lemmas; the statement itself is proved in the row's text.
-/
import Derived.Test.YtcdpjgdaofgpcaaDoorDeciAwake
import Derived.Test.YtcdpjgdaofgpcaaDoorRef3b
import Derived.Test.YtcdpjgdaofgpcaaDoorRef3c
import Derived.Test.YtcdpjgdaofgpcaaDoorRef3d
import Derived.Deep.RegionHeld3
namespace Go.Proofs.YtcdpjgdaofgpcaaDoor
open Go.RowKit
set_option maxRecDepth 100000
set_option linter.unusedVariables false
set_option linter.unusedSimpArgs false

set_option maxHeartbeats 8000000 in
theorem two_walk (an bn : Bool) (av bv : Int) (w : World) (G : Glob w) :
    Calls Tryd.prog 9 #[.agg #[.bool an, .int .i64 av], .agg #[.bool bn, .int .i64 bv]] w fun e w' => e = .returned (.bool true) ∧ Ext w w' := by
  obtain ⟨⟨⟨r0, s0⟩, t0⟩, er0⟩ : ∃ r, two an bn av bv (fitS (av + bv)) = r := ⟨_, rfl⟩
  have E0 := Lib.hid er0; clear er0
  obtain ⟨⟨⟨r1, s1⟩, t1⟩, er1⟩ : ∃ r, two an bn av bv (fitS (av - bv)) = r := ⟨_, rfl⟩
  have E1 := Lib.hid er1; clear er1
  obtain ⟨⟨⟨r2, s2⟩, t2⟩, er2⟩ : ∃ r, two an bn av bv (mulS av bv) = r := ⟨_, rfl⟩
  have E2 := Lib.hid er2; clear er2
  obtain ⟨⟨⟨r3, s3⟩, t3⟩, er3⟩ : ∃ r, two an bn av bv (divS av bv) = r := ⟨_, rfl⟩
  have E3 := Lib.hid er3; clear er3
  obtain ⟨⟨⟨r4, s4⟩, t4⟩, er4⟩ : ∃ r, two an bn av bv (modS av bv) = r := ⟨_, rfl⟩
  have E4 := Lib.hid er4; clear er4
  obtain ⟨q1, eq1⟩ : ∃ r, lessS an bn av bv = r := ⟨_, rfl⟩
  obtain ⟨q2, eq2⟩ : ∃ r, equalS an bn av bv = r := ⟨_, rfl⟩
  have Q1 := Lib.hid eq1; have Q2 := Lib.hid eq2; clear eq1 eq2
  go_enter Tryd.func9, Tryd.ntmps9
  go_wp2_with fail
  refine (awake3 _ ((G.alloc _).alloc _)).mono ?_
  rintro e w1 ⟨rfl, hB1⟩
  have hz1 := hB1.size
  simp at hz1
  have l0_1 : w.heap.size < w1.heap.size := by omega
  have l1_1 : w.heap.size + 1 < w1.heap.size := by omega
  have c0_0_1 : w1.cell? ⟨w.heap.size, 0, none⟩ = some (.bool an) := hB1.keep (by first | (simp; done) | (simp; omega)) (by simp [go_sem])
  have c0_1_1 : w1.cell? ⟨w.heap.size, 1, none⟩ = some (.int .i64 av) := hB1.keep (by first | (simp; done) | (simp; omega)) (by simp [go_sem])
  have c1_0_1 : w1.cell? ⟨w.heap.size + 1, 0, none⟩ = some (.bool bn) := hB1.keep (by first | (simp; done) | (simp; omega)) (by simp [go_sem])
  have c1_1_1 : w1.cell? ⟨w.heap.size + 1, 1, none⟩ = some (.int .i64 bv) := hB1.keep (by first | (simp; done) | (simp; omega)) (by simp [go_sem])
  go_wp2_with fail
  refine (add_any an bn av bv _).mono ?_
  rw [E0.out]
  rintro e w2 ⟨rfl, hB2⟩
  have hz2 := hB2.size
  have l0_2 : w.heap.size < w2.heap.size := by omega
  have l1_2 : w.heap.size + 1 < w2.heap.size := by omega
  have c0_0_2 : w2.cell? ⟨w.heap.size, 0, none⟩ = some (.bool an) := hB2.keep (by omega) c0_0_1
  have c0_1_2 : w2.cell? ⟨w.heap.size, 1, none⟩ = some (.int .i64 av) := hB2.keep (by omega) c0_1_1
  have c1_0_2 : w2.cell? ⟨w.heap.size + 1, 0, none⟩ = some (.bool bn) := hB2.keep (by omega) c1_0_1
  have c1_1_2 : w2.cell? ⟨w.heap.size + 1, 1, none⟩ = some (.int .i64 bv) := hB2.keep (by omega) c1_1_1
  clear c0_0_1 c0_1_1 c1_0_1 c1_1_1 l0_1 l1_1
  go_wp2_with fail
  refine (radd_any an bn av bv _).mono ?_
  rw [E0.out]
  rintro e w3 ⟨rfl, hB3⟩
  have hz3 := hB3.size
  simp at hz3
  have l0_3 : w.heap.size < w3.heap.size := by omega
  have l1_3 : w.heap.size + 1 < w3.heap.size := by omega
  have l2_3 : w2.heap.size < w3.heap.size := by omega
  have c0_0_3 : w3.cell? ⟨w.heap.size, 0, none⟩ = some (.bool an) := hB3.keep (by first | (simp; done) | (simp; omega)) (by simp [go_sem, l0_2, l1_2, c0_0_2])
  have c0_1_3 : w3.cell? ⟨w.heap.size, 1, none⟩ = some (.int .i64 av) := hB3.keep (by first | (simp; done) | (simp; omega)) (by simp [go_sem, l0_2, l1_2, c0_1_2])
  have c1_0_3 : w3.cell? ⟨w.heap.size + 1, 0, none⟩ = some (.bool bn) := hB3.keep (by first | (simp; done) | (simp; omega)) (by simp [go_sem, l0_2, l1_2, c1_0_2])
  have c1_1_3 : w3.cell? ⟨w.heap.size + 1, 1, none⟩ = some (.int .i64 bv) := hB3.keep (by first | (simp; done) | (simp; omega)) (by simp [go_sem, l0_2, l1_2, c1_1_2])
  have c2_0_3 : w3.cell? ⟨w2.heap.size, 0, none⟩ = some (.bool r0) := hB3.keep (by first | (simp; done) | (simp; omega)) (by simp [go_sem, l0_2, l1_2])
  have f2_0_3 : w3.frozen? ⟨w2.heap.size, 0, none⟩ = false := hB3.free (by first | (simp; done) | (simp; omega)) (by simp [go_sem, l0_2, l1_2])
  have c2_1_3 : w3.cell? ⟨w2.heap.size, 1, none⟩ = some (.int .i64 s0) := hB3.keep (by first | (simp; done) | (simp; omega)) (by simp [go_sem, l0_2, l1_2])
  have f2_1_3 : w3.frozen? ⟨w2.heap.size, 1, none⟩ = false := hB3.free (by first | (simp; done) | (simp; omega)) (by simp [go_sem, l0_2, l1_2])
  clear c0_0_2 c0_1_2 c1_0_2 c1_1_2 l0_2 l1_2
  have ne2_0 : ¬ w2.heap.size = w.heap.size := by omega
  have ne0_2 : ¬ w.heap.size = w2.heap.size := by omega
  have ne2_1 : ¬ w2.heap.size = w.heap.size + 1 := by omega
  have ne1_2 : ¬ w.heap.size + 1 = w2.heap.size := by omega
  go_wp2_with fail
  refine (sub_any an bn av bv _).mono ?_
  rw [E1.out]
  rintro e w4 ⟨rfl, hB4⟩
  have hz4 := hB4.size
  simp at hz4
  have l0_4 : w.heap.size < w4.heap.size := by omega
  have l1_4 : w.heap.size + 1 < w4.heap.size := by omega
  have l2_4 : w2.heap.size < w4.heap.size := by omega
  have l3_4 : w3.heap.size < w4.heap.size := by omega
  have c0_0_4 : w4.cell? ⟨w.heap.size, 0, none⟩ = some (.bool an) := hB4.keep (by first | (simp; done) | (simp; omega)) (by simp [go_sem, l0_3, l1_3, l2_3, c0_0_3])
  have c0_1_4 : w4.cell? ⟨w.heap.size, 1, none⟩ = some (.int .i64 av) := hB4.keep (by first | (simp; done) | (simp; omega)) (by simp [go_sem, l0_3, l1_3, l2_3, c0_1_3])
  have c1_0_4 : w4.cell? ⟨w.heap.size + 1, 0, none⟩ = some (.bool bn) := hB4.keep (by first | (simp; done) | (simp; omega)) (by simp [go_sem, l0_3, l1_3, l2_3, c1_0_3])
  have c1_1_4 : w4.cell? ⟨w.heap.size + 1, 1, none⟩ = some (.int .i64 bv) := hB4.keep (by first | (simp; done) | (simp; omega)) (by simp [go_sem, l0_3, l1_3, l2_3, c1_1_3])
  have c2_0_4 : w4.cell? ⟨w2.heap.size, 0, none⟩ = some (.bool r0) := hB4.keep (by first | (simp; done) | (simp; omega)) (by simp [go_sem, l0_3, l1_3, l2_3, c2_0_3])
  have f2_0_4 : w4.frozen? ⟨w2.heap.size, 0, none⟩ = false := hB4.free (by first | (simp; done) | (simp; omega)) (by simp [go_sem, l0_3, l1_3, l2_3, f2_0_3])
  have c2_1_4 : w4.cell? ⟨w2.heap.size, 1, none⟩ = some (.int .i64 s0) := hB4.keep (by first | (simp; done) | (simp; omega)) (by simp [go_sem, l0_3, l1_3, l2_3, c2_1_3])
  have f2_1_4 : w4.frozen? ⟨w2.heap.size, 1, none⟩ = false := hB4.free (by first | (simp; done) | (simp; omega)) (by simp [go_sem, l0_3, l1_3, l2_3, f2_1_3])
  have c3_0_4 : w4.cell? ⟨w3.heap.size, 0, none⟩ = some (.bool r0) := hB4.keep (by first | (simp; done) | (simp; omega)) (by simp [go_sem, l0_3, l1_3, l2_3])
  have f3_0_4 : w4.frozen? ⟨w3.heap.size, 0, none⟩ = false := hB4.free (by first | (simp; done) | (simp; omega)) (by simp [go_sem, l0_3, l1_3, l2_3])
  have c3_1_4 : w4.cell? ⟨w3.heap.size, 1, none⟩ = some (.int .i64 s0) := hB4.keep (by first | (simp; done) | (simp; omega)) (by simp [go_sem, l0_3, l1_3, l2_3])
  have f3_1_4 : w4.frozen? ⟨w3.heap.size, 1, none⟩ = false := hB4.free (by first | (simp; done) | (simp; omega)) (by simp [go_sem, l0_3, l1_3, l2_3])
  clear c0_0_3 c0_1_3 c1_0_3 c1_1_3 c2_0_3 c2_1_3 l0_3 l1_3 l2_3 f2_0_3 f2_1_3
  have ne2_3 : ¬ w2.heap.size = w3.heap.size := by omega
  have ne3_2 : ¬ w3.heap.size = w2.heap.size := by omega
  have ne3_0 : ¬ w3.heap.size = w.heap.size := by omega
  have ne0_3 : ¬ w.heap.size = w3.heap.size := by omega
  have ne3_1 : ¬ w3.heap.size = w.heap.size + 1 := by omega
  have ne1_3 : ¬ w.heap.size + 1 = w3.heap.size := by omega
  go_wp2_with fail
  refine (rsub_any an bn av bv _).mono ?_
  rw [E1.out]
  rintro e w5 ⟨rfl, hB5⟩
  have hz5 := hB5.size
  simp at hz5
  have l0_5 : w.heap.size < w5.heap.size := by omega
  have l1_5 : w.heap.size + 1 < w5.heap.size := by omega
  have l2_5 : w2.heap.size < w5.heap.size := by omega
  have l3_5 : w3.heap.size < w5.heap.size := by omega
  have c0_0_5 : w5.cell? ⟨w.heap.size, 0, none⟩ = some (.bool an) := hB5.keep (by first | (simp; done) | (simp; omega)) (by simp [go_sem, l0_4, l1_4, l2_4, l3_4, c2_0_4, c2_1_4, c0_0_4])
  have c0_1_5 : w5.cell? ⟨w.heap.size, 1, none⟩ = some (.int .i64 av) := hB5.keep (by first | (simp; done) | (simp; omega)) (by simp [go_sem, l0_4, l1_4, l2_4, l3_4, c2_0_4, c2_1_4, c0_1_4])
  have c1_0_5 : w5.cell? ⟨w.heap.size + 1, 0, none⟩ = some (.bool bn) := hB5.keep (by first | (simp; done) | (simp; omega)) (by simp [go_sem, l0_4, l1_4, l2_4, l3_4, c2_0_4, c2_1_4, c1_0_4])
  have c1_1_5 : w5.cell? ⟨w.heap.size + 1, 1, none⟩ = some (.int .i64 bv) := hB5.keep (by first | (simp; done) | (simp; omega)) (by simp [go_sem, l0_4, l1_4, l2_4, l3_4, c2_0_4, c2_1_4, c1_1_4])
  have c2_0_5 : w5.cell? ⟨w2.heap.size, 0, none⟩ = some (.bool r1) := hB5.keep (by first | (simp; done) | (simp; omega)) (by simp [go_sem, l0_4, l1_4, l2_4, l3_4, c2_0_4, c2_1_4])
  have f2_0_5 : w5.frozen? ⟨w2.heap.size, 0, none⟩ = false := hB5.free (by first | (simp; done) | (simp; omega)) (by simp [go_sem, l0_4, l1_4, l2_4, l3_4, f2_0_4])
  have c2_1_5 : w5.cell? ⟨w2.heap.size, 1, none⟩ = some (.int .i64 s1) := hB5.keep (by first | (simp; done) | (simp; omega)) (by simp [go_sem, l0_4, l1_4, l2_4, l3_4, c2_0_4, c2_1_4])
  have f2_1_5 : w5.frozen? ⟨w2.heap.size, 1, none⟩ = false := hB5.free (by first | (simp; done) | (simp; omega)) (by simp [go_sem, l0_4, l1_4, l2_4, l3_4, f2_1_4])
  have c3_0_5 : w5.cell? ⟨w3.heap.size, 0, none⟩ = some (.bool r0) := hB5.keep (by first | (simp; done) | (simp; omega)) (by simp [go_sem, l0_4, l1_4, l2_4, l3_4, c2_0_4, c2_1_4, c3_0_4])
  have f3_0_5 : w5.frozen? ⟨w3.heap.size, 0, none⟩ = false := hB5.free (by first | (simp; done) | (simp; omega)) (by simp [go_sem, l0_4, l1_4, l2_4, l3_4, f3_0_4])
  have c3_1_5 : w5.cell? ⟨w3.heap.size, 1, none⟩ = some (.int .i64 s0) := hB5.keep (by first | (simp; done) | (simp; omega)) (by simp [go_sem, l0_4, l1_4, l2_4, l3_4, c2_0_4, c2_1_4, c3_1_4])
  have f3_1_5 : w5.frozen? ⟨w3.heap.size, 1, none⟩ = false := hB5.free (by first | (simp; done) | (simp; omega)) (by simp [go_sem, l0_4, l1_4, l2_4, l3_4, f3_1_4])
  clear c0_0_4 c0_1_4 c1_0_4 c1_1_4 c2_0_4 c2_1_4 c3_0_4 c3_1_4 l0_4 l1_4 l2_4 l3_4 f2_0_4 f2_1_4 f3_0_4 f3_1_4
  go_wp2_with fail
  refine (mul_any an bn av bv _).mono ?_
  rw [E2.out]
  rintro e w6 ⟨rfl, hB6⟩
  have hz6 := hB6.size
  simp at hz6
  have l0_6 : w.heap.size < w6.heap.size := by omega
  have l1_6 : w.heap.size + 1 < w6.heap.size := by omega
  have l2_6 : w2.heap.size < w6.heap.size := by omega
  have l3_6 : w3.heap.size < w6.heap.size := by omega
  have c0_0_6 : w6.cell? ⟨w.heap.size, 0, none⟩ = some (.bool an) := hB6.keep (by first | (simp; done) | (simp; omega)) (by simp [go_sem, l0_5, l1_5, l2_5, l3_5, c3_0_5, c3_1_5, c0_0_5])
  have c0_1_6 : w6.cell? ⟨w.heap.size, 1, none⟩ = some (.int .i64 av) := hB6.keep (by first | (simp; done) | (simp; omega)) (by simp [go_sem, l0_5, l1_5, l2_5, l3_5, c3_0_5, c3_1_5, c0_1_5])
  have c1_0_6 : w6.cell? ⟨w.heap.size + 1, 0, none⟩ = some (.bool bn) := hB6.keep (by first | (simp; done) | (simp; omega)) (by simp [go_sem, l0_5, l1_5, l2_5, l3_5, c3_0_5, c3_1_5, c1_0_5])
  have c1_1_6 : w6.cell? ⟨w.heap.size + 1, 1, none⟩ = some (.int .i64 bv) := hB6.keep (by first | (simp; done) | (simp; omega)) (by simp [go_sem, l0_5, l1_5, l2_5, l3_5, c3_0_5, c3_1_5, c1_1_5])
  have c2_0_6 : w6.cell? ⟨w2.heap.size, 0, none⟩ = some (.bool r1) := hB6.keep (by first | (simp; done) | (simp; omega)) (by simp [go_sem, l0_5, l1_5, l2_5, l3_5, c3_0_5, c3_1_5, c2_0_5])
  have f2_0_6 : w6.frozen? ⟨w2.heap.size, 0, none⟩ = false := hB6.free (by first | (simp; done) | (simp; omega)) (by simp [go_sem, l0_5, l1_5, l2_5, l3_5, f2_0_5])
  have c2_1_6 : w6.cell? ⟨w2.heap.size, 1, none⟩ = some (.int .i64 s1) := hB6.keep (by first | (simp; done) | (simp; omega)) (by simp [go_sem, l0_5, l1_5, l2_5, l3_5, c3_0_5, c3_1_5, c2_1_5])
  have f2_1_6 : w6.frozen? ⟨w2.heap.size, 1, none⟩ = false := hB6.free (by first | (simp; done) | (simp; omega)) (by simp [go_sem, l0_5, l1_5, l2_5, l3_5, f2_1_5])
  have c3_0_6 : w6.cell? ⟨w3.heap.size, 0, none⟩ = some (.bool r1) := hB6.keep (by first | (simp; done) | (simp; omega)) (by simp [go_sem, l0_5, l1_5, l2_5, l3_5, c3_0_5, c3_1_5])
  have f3_0_6 : w6.frozen? ⟨w3.heap.size, 0, none⟩ = false := hB6.free (by first | (simp; done) | (simp; omega)) (by simp [go_sem, l0_5, l1_5, l2_5, l3_5, f3_0_5])
  have c3_1_6 : w6.cell? ⟨w3.heap.size, 1, none⟩ = some (.int .i64 s1) := hB6.keep (by first | (simp; done) | (simp; omega)) (by simp [go_sem, l0_5, l1_5, l2_5, l3_5, c3_0_5, c3_1_5])
  have f3_1_6 : w6.frozen? ⟨w3.heap.size, 1, none⟩ = false := hB6.free (by first | (simp; done) | (simp; omega)) (by simp [go_sem, l0_5, l1_5, l2_5, l3_5, f3_1_5])
  clear c0_0_5 c0_1_5 c1_0_5 c1_1_5 c2_0_5 c2_1_5 c3_0_5 c3_1_5 l0_5 l1_5 l2_5 l3_5 f2_0_5 f2_1_5 f3_0_5 f3_1_5
  go_wp2_with fail
  refine (rmul_any an bn av bv _).mono ?_
  rw [E2.out]
  rintro e w7 ⟨rfl, hB7⟩
  have hz7 := hB7.size
  simp at hz7
  have l0_7 : w.heap.size < w7.heap.size := by omega
  have l1_7 : w.heap.size + 1 < w7.heap.size := by omega
  have l2_7 : w2.heap.size < w7.heap.size := by omega
  have l3_7 : w3.heap.size < w7.heap.size := by omega
  have c0_0_7 : w7.cell? ⟨w.heap.size, 0, none⟩ = some (.bool an) := hB7.keep (by first | (simp; done) | (simp; omega)) (by simp [go_sem, l0_6, l1_6, l2_6, l3_6, c2_0_6, c2_1_6, c0_0_6])
  have c0_1_7 : w7.cell? ⟨w.heap.size, 1, none⟩ = some (.int .i64 av) := hB7.keep (by first | (simp; done) | (simp; omega)) (by simp [go_sem, l0_6, l1_6, l2_6, l3_6, c2_0_6, c2_1_6, c0_1_6])
  have c1_0_7 : w7.cell? ⟨w.heap.size + 1, 0, none⟩ = some (.bool bn) := hB7.keep (by first | (simp; done) | (simp; omega)) (by simp [go_sem, l0_6, l1_6, l2_6, l3_6, c2_0_6, c2_1_6, c1_0_6])
  have c1_1_7 : w7.cell? ⟨w.heap.size + 1, 1, none⟩ = some (.int .i64 bv) := hB7.keep (by first | (simp; done) | (simp; omega)) (by simp [go_sem, l0_6, l1_6, l2_6, l3_6, c2_0_6, c2_1_6, c1_1_6])
  have c2_0_7 : w7.cell? ⟨w2.heap.size, 0, none⟩ = some (.bool r2) := hB7.keep (by first | (simp; done) | (simp; omega)) (by simp [go_sem, l0_6, l1_6, l2_6, l3_6, c2_0_6, c2_1_6])
  have f2_0_7 : w7.frozen? ⟨w2.heap.size, 0, none⟩ = false := hB7.free (by first | (simp; done) | (simp; omega)) (by simp [go_sem, l0_6, l1_6, l2_6, l3_6, f2_0_6])
  have c2_1_7 : w7.cell? ⟨w2.heap.size, 1, none⟩ = some (.int .i64 s2) := hB7.keep (by first | (simp; done) | (simp; omega)) (by simp [go_sem, l0_6, l1_6, l2_6, l3_6, c2_0_6, c2_1_6])
  have f2_1_7 : w7.frozen? ⟨w2.heap.size, 1, none⟩ = false := hB7.free (by first | (simp; done) | (simp; omega)) (by simp [go_sem, l0_6, l1_6, l2_6, l3_6, f2_1_6])
  have c3_0_7 : w7.cell? ⟨w3.heap.size, 0, none⟩ = some (.bool r1) := hB7.keep (by first | (simp; done) | (simp; omega)) (by simp [go_sem, l0_6, l1_6, l2_6, l3_6, c2_0_6, c2_1_6, c3_0_6])
  have f3_0_7 : w7.frozen? ⟨w3.heap.size, 0, none⟩ = false := hB7.free (by first | (simp; done) | (simp; omega)) (by simp [go_sem, l0_6, l1_6, l2_6, l3_6, f3_0_6])
  have c3_1_7 : w7.cell? ⟨w3.heap.size, 1, none⟩ = some (.int .i64 s1) := hB7.keep (by first | (simp; done) | (simp; omega)) (by simp [go_sem, l0_6, l1_6, l2_6, l3_6, c2_0_6, c2_1_6, c3_1_6])
  have f3_1_7 : w7.frozen? ⟨w3.heap.size, 1, none⟩ = false := hB7.free (by first | (simp; done) | (simp; omega)) (by simp [go_sem, l0_6, l1_6, l2_6, l3_6, f3_1_6])
  clear c0_0_6 c0_1_6 c1_0_6 c1_1_6 c2_0_6 c2_1_6 c3_0_6 c3_1_6 l0_6 l1_6 l2_6 l3_6 f2_0_6 f2_1_6 f3_0_6 f3_1_6
  go_wp2_with fail
  refine (div_any an bn av bv _).mono ?_
  rw [E3.out]
  rintro e w8 ⟨rfl, hB8⟩
  have hz8 := hB8.size
  simp at hz8
  have l0_8 : w.heap.size < w8.heap.size := by omega
  have l1_8 : w.heap.size + 1 < w8.heap.size := by omega
  have l2_8 : w2.heap.size < w8.heap.size := by omega
  have l3_8 : w3.heap.size < w8.heap.size := by omega
  have c0_0_8 : w8.cell? ⟨w.heap.size, 0, none⟩ = some (.bool an) := hB8.keep (by first | (simp; done) | (simp; omega)) (by simp [go_sem, l0_7, l1_7, l2_7, l3_7, c3_0_7, c3_1_7, c0_0_7])
  have c0_1_8 : w8.cell? ⟨w.heap.size, 1, none⟩ = some (.int .i64 av) := hB8.keep (by first | (simp; done) | (simp; omega)) (by simp [go_sem, l0_7, l1_7, l2_7, l3_7, c3_0_7, c3_1_7, c0_1_7])
  have c1_0_8 : w8.cell? ⟨w.heap.size + 1, 0, none⟩ = some (.bool bn) := hB8.keep (by first | (simp; done) | (simp; omega)) (by simp [go_sem, l0_7, l1_7, l2_7, l3_7, c3_0_7, c3_1_7, c1_0_7])
  have c1_1_8 : w8.cell? ⟨w.heap.size + 1, 1, none⟩ = some (.int .i64 bv) := hB8.keep (by first | (simp; done) | (simp; omega)) (by simp [go_sem, l0_7, l1_7, l2_7, l3_7, c3_0_7, c3_1_7, c1_1_7])
  have c2_0_8 : w8.cell? ⟨w2.heap.size, 0, none⟩ = some (.bool r2) := hB8.keep (by first | (simp; done) | (simp; omega)) (by simp [go_sem, l0_7, l1_7, l2_7, l3_7, c3_0_7, c3_1_7, c2_0_7])
  have f2_0_8 : w8.frozen? ⟨w2.heap.size, 0, none⟩ = false := hB8.free (by first | (simp; done) | (simp; omega)) (by simp [go_sem, l0_7, l1_7, l2_7, l3_7, f2_0_7])
  have c2_1_8 : w8.cell? ⟨w2.heap.size, 1, none⟩ = some (.int .i64 s2) := hB8.keep (by first | (simp; done) | (simp; omega)) (by simp [go_sem, l0_7, l1_7, l2_7, l3_7, c3_0_7, c3_1_7, c2_1_7])
  have f2_1_8 : w8.frozen? ⟨w2.heap.size, 1, none⟩ = false := hB8.free (by first | (simp; done) | (simp; omega)) (by simp [go_sem, l0_7, l1_7, l2_7, l3_7, f2_1_7])
  have c3_0_8 : w8.cell? ⟨w3.heap.size, 0, none⟩ = some (.bool r2) := hB8.keep (by first | (simp; done) | (simp; omega)) (by simp [go_sem, l0_7, l1_7, l2_7, l3_7, c3_0_7, c3_1_7])
  have f3_0_8 : w8.frozen? ⟨w3.heap.size, 0, none⟩ = false := hB8.free (by first | (simp; done) | (simp; omega)) (by simp [go_sem, l0_7, l1_7, l2_7, l3_7, f3_0_7])
  have c3_1_8 : w8.cell? ⟨w3.heap.size, 1, none⟩ = some (.int .i64 s2) := hB8.keep (by first | (simp; done) | (simp; omega)) (by simp [go_sem, l0_7, l1_7, l2_7, l3_7, c3_0_7, c3_1_7])
  have f3_1_8 : w8.frozen? ⟨w3.heap.size, 1, none⟩ = false := hB8.free (by first | (simp; done) | (simp; omega)) (by simp [go_sem, l0_7, l1_7, l2_7, l3_7, f3_1_7])
  clear c0_0_7 c0_1_7 c1_0_7 c1_1_7 c2_0_7 c2_1_7 c3_0_7 c3_1_7 l0_7 l1_7 l2_7 l3_7 f2_0_7 f2_1_7 f3_0_7 f3_1_7
  go_wp2_with fail
  refine (rdiv_any an bn av bv _).mono ?_
  rw [E3.out]
  rintro e w9 ⟨rfl, hB9⟩
  have hz9 := hB9.size
  simp at hz9
  have l0_9 : w.heap.size < w9.heap.size := by omega
  have l1_9 : w.heap.size + 1 < w9.heap.size := by omega
  have l2_9 : w2.heap.size < w9.heap.size := by omega
  have l3_9 : w3.heap.size < w9.heap.size := by omega
  have c0_0_9 : w9.cell? ⟨w.heap.size, 0, none⟩ = some (.bool an) := hB9.keep (by first | (simp; done) | (simp; omega)) (by simp [go_sem, l0_8, l1_8, l2_8, l3_8, c2_0_8, c2_1_8, c0_0_8])
  have c0_1_9 : w9.cell? ⟨w.heap.size, 1, none⟩ = some (.int .i64 av) := hB9.keep (by first | (simp; done) | (simp; omega)) (by simp [go_sem, l0_8, l1_8, l2_8, l3_8, c2_0_8, c2_1_8, c0_1_8])
  have c1_0_9 : w9.cell? ⟨w.heap.size + 1, 0, none⟩ = some (.bool bn) := hB9.keep (by first | (simp; done) | (simp; omega)) (by simp [go_sem, l0_8, l1_8, l2_8, l3_8, c2_0_8, c2_1_8, c1_0_8])
  have c1_1_9 : w9.cell? ⟨w.heap.size + 1, 1, none⟩ = some (.int .i64 bv) := hB9.keep (by first | (simp; done) | (simp; omega)) (by simp [go_sem, l0_8, l1_8, l2_8, l3_8, c2_0_8, c2_1_8, c1_1_8])
  have c2_0_9 : w9.cell? ⟨w2.heap.size, 0, none⟩ = some (.bool r3) := hB9.keep (by first | (simp; done) | (simp; omega)) (by simp [go_sem, l0_8, l1_8, l2_8, l3_8, c2_0_8, c2_1_8])
  have f2_0_9 : w9.frozen? ⟨w2.heap.size, 0, none⟩ = false := hB9.free (by first | (simp; done) | (simp; omega)) (by simp [go_sem, l0_8, l1_8, l2_8, l3_8, f2_0_8])
  have c2_1_9 : w9.cell? ⟨w2.heap.size, 1, none⟩ = some (.int .i64 s3) := hB9.keep (by first | (simp; done) | (simp; omega)) (by simp [go_sem, l0_8, l1_8, l2_8, l3_8, c2_0_8, c2_1_8])
  have f2_1_9 : w9.frozen? ⟨w2.heap.size, 1, none⟩ = false := hB9.free (by first | (simp; done) | (simp; omega)) (by simp [go_sem, l0_8, l1_8, l2_8, l3_8, f2_1_8])
  have c3_0_9 : w9.cell? ⟨w3.heap.size, 0, none⟩ = some (.bool r2) := hB9.keep (by first | (simp; done) | (simp; omega)) (by simp [go_sem, l0_8, l1_8, l2_8, l3_8, c2_0_8, c2_1_8, c3_0_8])
  have f3_0_9 : w9.frozen? ⟨w3.heap.size, 0, none⟩ = false := hB9.free (by first | (simp; done) | (simp; omega)) (by simp [go_sem, l0_8, l1_8, l2_8, l3_8, f3_0_8])
  have c3_1_9 : w9.cell? ⟨w3.heap.size, 1, none⟩ = some (.int .i64 s2) := hB9.keep (by first | (simp; done) | (simp; omega)) (by simp [go_sem, l0_8, l1_8, l2_8, l3_8, c2_0_8, c2_1_8, c3_1_8])
  have f3_1_9 : w9.frozen? ⟨w3.heap.size, 1, none⟩ = false := hB9.free (by first | (simp; done) | (simp; omega)) (by simp [go_sem, l0_8, l1_8, l2_8, l3_8, f3_1_8])
  clear c0_0_8 c0_1_8 c1_0_8 c1_1_8 c2_0_8 c2_1_8 c3_0_8 c3_1_8 l0_8 l1_8 l2_8 l3_8 f2_0_8 f2_1_8 f3_0_8 f3_1_8
  go_wp2_with fail
  refine (mod_any an bn av bv _).mono ?_
  rw [E4.out]
  rintro e w10 ⟨rfl, hB10⟩
  have hz10 := hB10.size
  simp at hz10
  have l0_10 : w.heap.size < w10.heap.size := by omega
  have l1_10 : w.heap.size + 1 < w10.heap.size := by omega
  have l2_10 : w2.heap.size < w10.heap.size := by omega
  have l3_10 : w3.heap.size < w10.heap.size := by omega
  have c0_0_10 : w10.cell? ⟨w.heap.size, 0, none⟩ = some (.bool an) := hB10.keep (by first | (simp; done) | (simp; omega)) (by simp [go_sem, l0_9, l1_9, l2_9, l3_9, c3_0_9, c3_1_9, c0_0_9])
  have c0_1_10 : w10.cell? ⟨w.heap.size, 1, none⟩ = some (.int .i64 av) := hB10.keep (by first | (simp; done) | (simp; omega)) (by simp [go_sem, l0_9, l1_9, l2_9, l3_9, c3_0_9, c3_1_9, c0_1_9])
  have c1_0_10 : w10.cell? ⟨w.heap.size + 1, 0, none⟩ = some (.bool bn) := hB10.keep (by first | (simp; done) | (simp; omega)) (by simp [go_sem, l0_9, l1_9, l2_9, l3_9, c3_0_9, c3_1_9, c1_0_9])
  have c1_1_10 : w10.cell? ⟨w.heap.size + 1, 1, none⟩ = some (.int .i64 bv) := hB10.keep (by first | (simp; done) | (simp; omega)) (by simp [go_sem, l0_9, l1_9, l2_9, l3_9, c3_0_9, c3_1_9, c1_1_9])
  have c2_0_10 : w10.cell? ⟨w2.heap.size, 0, none⟩ = some (.bool r3) := hB10.keep (by first | (simp; done) | (simp; omega)) (by simp [go_sem, l0_9, l1_9, l2_9, l3_9, c3_0_9, c3_1_9, c2_0_9])
  have f2_0_10 : w10.frozen? ⟨w2.heap.size, 0, none⟩ = false := hB10.free (by first | (simp; done) | (simp; omega)) (by simp [go_sem, l0_9, l1_9, l2_9, l3_9, f2_0_9])
  have c2_1_10 : w10.cell? ⟨w2.heap.size, 1, none⟩ = some (.int .i64 s3) := hB10.keep (by first | (simp; done) | (simp; omega)) (by simp [go_sem, l0_9, l1_9, l2_9, l3_9, c3_0_9, c3_1_9, c2_1_9])
  have f2_1_10 : w10.frozen? ⟨w2.heap.size, 1, none⟩ = false := hB10.free (by first | (simp; done) | (simp; omega)) (by simp [go_sem, l0_9, l1_9, l2_9, l3_9, f2_1_9])
  have c3_0_10 : w10.cell? ⟨w3.heap.size, 0, none⟩ = some (.bool r3) := hB10.keep (by first | (simp; done) | (simp; omega)) (by simp [go_sem, l0_9, l1_9, l2_9, l3_9, c3_0_9, c3_1_9])
  have f3_0_10 : w10.frozen? ⟨w3.heap.size, 0, none⟩ = false := hB10.free (by first | (simp; done) | (simp; omega)) (by simp [go_sem, l0_9, l1_9, l2_9, l3_9, f3_0_9])
  have c3_1_10 : w10.cell? ⟨w3.heap.size, 1, none⟩ = some (.int .i64 s3) := hB10.keep (by first | (simp; done) | (simp; omega)) (by simp [go_sem, l0_9, l1_9, l2_9, l3_9, c3_0_9, c3_1_9])
  have f3_1_10 : w10.frozen? ⟨w3.heap.size, 1, none⟩ = false := hB10.free (by first | (simp; done) | (simp; omega)) (by simp [go_sem, l0_9, l1_9, l2_9, l3_9, f3_1_9])
  clear c0_0_9 c0_1_9 c1_0_9 c1_1_9 c2_0_9 c2_1_9 c3_0_9 c3_1_9 l0_9 l1_9 l2_9 l3_9 f2_0_9 f2_1_9 f3_0_9 f3_1_9
  go_wp2_with fail
  refine (rmod_any an bn av bv _).mono ?_
  rw [E4.out]
  rintro e w11 ⟨rfl, hB11⟩
  have hz11 := hB11.size
  simp at hz11
  have l0_11 : w.heap.size < w11.heap.size := by omega
  have l1_11 : w.heap.size + 1 < w11.heap.size := by omega
  have l2_11 : w2.heap.size < w11.heap.size := by omega
  have l3_11 : w3.heap.size < w11.heap.size := by omega
  have c0_0_11 : w11.cell? ⟨w.heap.size, 0, none⟩ = some (.bool an) := hB11.keep (by first | (simp; done) | (simp; omega)) (by simp [go_sem, l0_10, l1_10, l2_10, l3_10, c2_0_10, c2_1_10, c0_0_10])
  have c0_1_11 : w11.cell? ⟨w.heap.size, 1, none⟩ = some (.int .i64 av) := hB11.keep (by first | (simp; done) | (simp; omega)) (by simp [go_sem, l0_10, l1_10, l2_10, l3_10, c2_0_10, c2_1_10, c0_1_10])
  have c1_0_11 : w11.cell? ⟨w.heap.size + 1, 0, none⟩ = some (.bool bn) := hB11.keep (by first | (simp; done) | (simp; omega)) (by simp [go_sem, l0_10, l1_10, l2_10, l3_10, c2_0_10, c2_1_10, c1_0_10])
  have c1_1_11 : w11.cell? ⟨w.heap.size + 1, 1, none⟩ = some (.int .i64 bv) := hB11.keep (by first | (simp; done) | (simp; omega)) (by simp [go_sem, l0_10, l1_10, l2_10, l3_10, c2_0_10, c2_1_10, c1_1_10])
  have c2_0_11 : w11.cell? ⟨w2.heap.size, 0, none⟩ = some (.bool r4) := hB11.keep (by first | (simp; done) | (simp; omega)) (by simp [go_sem, l0_10, l1_10, l2_10, l3_10, c2_0_10, c2_1_10])
  have f2_0_11 : w11.frozen? ⟨w2.heap.size, 0, none⟩ = false := hB11.free (by first | (simp; done) | (simp; omega)) (by simp [go_sem, l0_10, l1_10, l2_10, l3_10, f2_0_10])
  have c2_1_11 : w11.cell? ⟨w2.heap.size, 1, none⟩ = some (.int .i64 s4) := hB11.keep (by first | (simp; done) | (simp; omega)) (by simp [go_sem, l0_10, l1_10, l2_10, l3_10, c2_0_10, c2_1_10])
  have f2_1_11 : w11.frozen? ⟨w2.heap.size, 1, none⟩ = false := hB11.free (by first | (simp; done) | (simp; omega)) (by simp [go_sem, l0_10, l1_10, l2_10, l3_10, f2_1_10])
  have c3_0_11 : w11.cell? ⟨w3.heap.size, 0, none⟩ = some (.bool r3) := hB11.keep (by first | (simp; done) | (simp; omega)) (by simp [go_sem, l0_10, l1_10, l2_10, l3_10, c2_0_10, c2_1_10, c3_0_10])
  have f3_0_11 : w11.frozen? ⟨w3.heap.size, 0, none⟩ = false := hB11.free (by first | (simp; done) | (simp; omega)) (by simp [go_sem, l0_10, l1_10, l2_10, l3_10, f3_0_10])
  have c3_1_11 : w11.cell? ⟨w3.heap.size, 1, none⟩ = some (.int .i64 s3) := hB11.keep (by first | (simp; done) | (simp; omega)) (by simp [go_sem, l0_10, l1_10, l2_10, l3_10, c2_0_10, c2_1_10, c3_1_10])
  have f3_1_11 : w11.frozen? ⟨w3.heap.size, 1, none⟩ = false := hB11.free (by first | (simp; done) | (simp; omega)) (by simp [go_sem, l0_10, l1_10, l2_10, l3_10, f3_1_10])
  clear c0_0_10 c0_1_10 c1_0_10 c1_1_10 c2_0_10 c2_1_10 c3_0_10 c3_1_10 l0_10 l1_10 l2_10 l3_10 f2_0_10 f2_1_10 f3_0_10 f3_1_10
  go_wp2_with fail
  obtain ⟨w12, hW12⟩ : ∃ wz, ((w11.setCell ⟨w3.heap.size, 0, none⟩ (.bool r4)).setCell ⟨w3.heap.size, 1, none⟩ (.int .i64 s4)) = wz := ⟨_, rfl⟩
  rw [hW12]
  have hB12 : Ext ((w11.setCell ⟨w3.heap.size, 0, none⟩ (.bool r4)).setCell ⟨w3.heap.size, 1, none⟩ (.int .i64 s4)) w12 := by rw [hW12]; exact Ext.refl _
  clear hW12
  have hz12 := hB12.size
  simp at hz12
  have l0_12 : w.heap.size < w12.heap.size := by omega
  have l1_12 : w.heap.size + 1 < w12.heap.size := by omega
  have l2_12 : w2.heap.size < w12.heap.size := by omega
  have l3_12 : w3.heap.size < w12.heap.size := by omega
  have c0_0_12 : w12.cell? ⟨w.heap.size, 0, none⟩ = some (.bool an) := hB12.keep (by first | (simp; done) | (simp; omega)) (by simp [go_sem, l0_11, l1_11, l2_11, l3_11, c3_0_11, c3_1_11, c0_0_11])
  have c0_1_12 : w12.cell? ⟨w.heap.size, 1, none⟩ = some (.int .i64 av) := hB12.keep (by first | (simp; done) | (simp; omega)) (by simp [go_sem, l0_11, l1_11, l2_11, l3_11, c3_0_11, c3_1_11, c0_1_11])
  have c1_0_12 : w12.cell? ⟨w.heap.size + 1, 0, none⟩ = some (.bool bn) := hB12.keep (by first | (simp; done) | (simp; omega)) (by simp [go_sem, l0_11, l1_11, l2_11, l3_11, c3_0_11, c3_1_11, c1_0_11])
  have c1_1_12 : w12.cell? ⟨w.heap.size + 1, 1, none⟩ = some (.int .i64 bv) := hB12.keep (by first | (simp; done) | (simp; omega)) (by simp [go_sem, l0_11, l1_11, l2_11, l3_11, c3_0_11, c3_1_11, c1_1_11])
  have c2_0_12 : w12.cell? ⟨w2.heap.size, 0, none⟩ = some (.bool r4) := hB12.keep (by first | (simp; done) | (simp; omega)) (by simp [go_sem, l0_11, l1_11, l2_11, l3_11, c3_0_11, c3_1_11, c2_0_11])
  have f2_0_12 : w12.frozen? ⟨w2.heap.size, 0, none⟩ = false := hB12.free (by first | (simp; done) | (simp; omega)) (by simp [go_sem, l0_11, l1_11, l2_11, l3_11, f2_0_11])
  have c2_1_12 : w12.cell? ⟨w2.heap.size, 1, none⟩ = some (.int .i64 s4) := hB12.keep (by first | (simp; done) | (simp; omega)) (by simp [go_sem, l0_11, l1_11, l2_11, l3_11, c3_0_11, c3_1_11, c2_1_11])
  have f2_1_12 : w12.frozen? ⟨w2.heap.size, 1, none⟩ = false := hB12.free (by first | (simp; done) | (simp; omega)) (by simp [go_sem, l0_11, l1_11, l2_11, l3_11, f2_1_11])
  have c3_0_12 : w12.cell? ⟨w3.heap.size, 0, none⟩ = some (.bool r4) := hB12.keep (by first | (simp; done) | (simp; omega)) (by simp [go_sem, l0_11, l1_11, l2_11, l3_11, c3_0_11, c3_1_11])
  have f3_0_12 : w12.frozen? ⟨w3.heap.size, 0, none⟩ = false := hB12.free (by first | (simp; done) | (simp; omega)) (by simp [go_sem, l0_11, l1_11, l2_11, l3_11, f3_0_11])
  have c3_1_12 : w12.cell? ⟨w3.heap.size, 1, none⟩ = some (.int .i64 s4) := hB12.keep (by first | (simp; done) | (simp; omega)) (by simp [go_sem, l0_11, l1_11, l2_11, l3_11, c3_0_11, c3_1_11])
  have f3_1_12 : w12.frozen? ⟨w3.heap.size, 1, none⟩ = false := hB12.free (by first | (simp; done) | (simp; omega)) (by simp [go_sem, l0_11, l1_11, l2_11, l3_11, f3_1_11])
  clear c0_0_11 c0_1_11 c1_0_11 c1_1_11 c2_0_11 c2_1_11 c3_0_11 c3_1_11 l0_11 l1_11 l2_11 l3_11 f2_0_11 f2_1_11 f3_0_11 f3_1_11
  have hX : Ext w w12 := by
    repeat (first | exact Ext.refl _ | refine Ext.alloc ?_ _ | refine Ext.set ?_ (by dsimp only; omega) _ | refine (Ext.trans ?_ (by assumption)))
  clear hB1 hB2 hB3 hB4 hB5 hB6 hB7 hB8 hB9 hB10 hB11 hB12 hz1 hz2 hz3 hz4 hz5 hz6 hz7 hz8 hz9 hz10 hz11 hz12 E0 E1 E2 E3 E4 G
  have Q1' := Q1.out
  have Q2' := Q2.out
  clear Q1 Q2
  go_region_held3 (fun w' => Ext w w' ∧ w12.heap.size ≤ w'.heap.size ∧ ∀ b o, b < w12.heap.size → w'.cell? ⟨b, o, none⟩ = w12.cell? ⟨b, o, none⟩)
    (first | exact ⟨hX, Nat.le_refl _, fun b o h => rfl⟩ | exact ⟨hX.drew, Nat.le_refl _, fun b o h => rfl⟩ | (have hH := ‹Ext w _ ∧ w12.heap.size ≤ (World.heap _).size ∧ _›; exact ⟨hH.1.trans hBr, Nat.le_trans hH.2.1 hBr.size, fun b o h => (hBr.cells b o (Nat.lt_of_lt_of_le h hH.2.1)).trans (hH.2.2 b o h)⟩))
    (first | (go_at_call 30; refine (less_any _ _ _ _ _).mono ?_; rintro e wr ⟨rfl, hBr⟩) | (go_at_call 40; refine (rless_any _ _ _ _ _).mono ?_; rintro e wr ⟨rfl, hBr⟩) | (go_at_call 31; refine (equal_any _ _ _ _ _).mono ?_; rintro e wr ⟨rfl, hBr⟩) | (go_at_call 41; refine (requal_any _ _ _ _ _).mono ?_; rintro e wr ⟨rfl, hBr⟩))
  go_wp2_with fail
  go_ret
  refine ⟨rfl, ?_⟩
  repeat (first | exact Ext.refl _ | refine Ext.set ?_ (by dsimp only; omega) _ | refine Ext.alloc ?_ _ | refine Ext.drew ?_ | refine (Ext.trans ?_ (by assumption)))
end Go.Proofs.YtcdpjgdaofgpcaaDoor
