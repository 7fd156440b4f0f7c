/-
  The walk of recensionlaw03.DeciOne: it returns true, whatever it is given. Helper lemmas; the statement itself is proved in the row's text.
-/
import Derived.Test.YtcdpjgdaofgpcaaDoorDeciAwake
import Derived.Test.YtcdpjgdaofgpcaaDoorRef3b
import Derived.Test.YtcdpjgdaofgpcaaDoorRef3g
import Derived.Test.YtcdpjgdaofgpcaaDoorRegion
namespace Go.Proofs.YtcdpjgdaofgpcaaDoor
open Go.RowKit
set_option maxRecDepth 100000
set_option linter.unusedVariables false
set_option linter.unusedSimpArgs false

set_option maxHeartbeats 8000000 in
theorem one_odd (an : Bool) (av n : Int) (w : World) (G : Glob w) (ho : oddB an av = true) :
    Calls Tryd.prog 10 #[.agg #[.bool an, .int .i64 av], .int .i64 n] w fun e w' => e = .returned (.bool true) ∧ Ext w w' := by
  obtain ⟨⟨⟨r0, s0⟩, t0⟩, er0⟩ : ∃ r, one an av (fitS (floorV av)) = r := ⟨_, rfl⟩
  have E0 := Lib.hid er0; clear er0
  obtain ⟨⟨⟨r1, s1⟩, t1⟩, er1⟩ : ∃ r, ceilS an av = r := ⟨_, rfl⟩
  have E1 := Lib.hid er1; clear er1
  obtain ⟨⟨⟨r2, s2⟩, t2⟩, er2⟩ : ∃ r, one an av (fitS (floorV (av + 500000))) = r := ⟨_, rfl⟩
  have E2 := Lib.hid er2; clear er2
  obtain ⟨⟨⟨r3, s3⟩, t3⟩, er3⟩ : ∃ r, ofS n = r := ⟨_, rfl⟩
  have E3 := Lib.hid er3; clear er3
  have EN : Hid (negS an av = (true, 0)) := by refine Lib.hid ?_; rw [negS, if_pos ho]
  have HO := Lib.hid ho; clear ho
  obtain ⟨tx, etx⟩ : ∃ t, bs (textS an av) = t := ⟨_, rfl⟩
  have ET := Lib.hid etx; clear etx
  go_enter Tryd.func10, Tryd.ntmps10
  go_wp2_with fail
  refine (awake3 _ (G.alloc _)).mono ?_
  rintro e w1 ⟨rfl, hB1⟩
  have hz1 := hB1.size
  simp at hz1
  have l0_1 : w.heap.size < w1.heap.size := by omega
  have c0_0_1 : w1.cell? ⟨w.heap.size, 0, none⟩ = some (.bool an) := hB1.keep (by first | (simp; done) | (simp; omega)) (by simp [go_sem])
  have c0_1_1 : w1.cell? ⟨w.heap.size, 1, none⟩ = some (.int .i64 av) := hB1.keep (by first | (simp; done) | (simp; omega)) (by simp [go_sem])
  go_wp2_with fail
  refine (floor_any an av _).mono ?_
  rw [E0.out]
  rintro e w2 ⟨rfl, hB2⟩
  have hz2 := hB2.size
  have l0_2 : w.heap.size < w2.heap.size := by omega
  have c0_0_2 : w2.cell? ⟨w.heap.size, 0, none⟩ = some (.bool an) := hB2.keep (by omega) c0_0_1
  have c0_1_2 : w2.cell? ⟨w.heap.size, 1, none⟩ = some (.int .i64 av) := hB2.keep (by omega) c0_1_1
  clear c0_0_1 c0_1_1 l0_1
  go_wp2_with fail
  refine (rfloor1_any an av _).mono ?_
  rw [E0.out]
  rintro e w3 ⟨rfl, hB3⟩
  have hz3 := hB3.size
  simp at hz3
  have l0_3 : w.heap.size < w3.heap.size := by omega
  have l1_3 : w2.heap.size < w3.heap.size := by omega
  have c0_0_3 : w3.cell? ⟨w.heap.size, 0, none⟩ = some (.bool an) := hB3.keep (by first | (simp; done) | (simp; omega)) (by simp [go_sem, l0_2, c0_0_2])
  have c0_1_3 : w3.cell? ⟨w.heap.size, 1, none⟩ = some (.int .i64 av) := hB3.keep (by first | (simp; done) | (simp; omega)) (by simp [go_sem, l0_2, c0_1_2])
  have c1_0_3 : w3.cell? ⟨w2.heap.size, 0, none⟩ = some (.bool r0) := hB3.keep (by first | (simp; done) | (simp; omega)) (by simp [go_sem, l0_2])
  have f1_0_3 : w3.frozen? ⟨w2.heap.size, 0, none⟩ = false := hB3.free (by first | (simp; done) | (simp; omega)) (by simp [go_sem, l0_2])
  have c1_1_3 : w3.cell? ⟨w2.heap.size, 1, none⟩ = some (.int .i64 s0) := hB3.keep (by first | (simp; done) | (simp; omega)) (by simp [go_sem, l0_2])
  have f1_1_3 : w3.frozen? ⟨w2.heap.size, 1, none⟩ = false := hB3.free (by first | (simp; done) | (simp; omega)) (by simp [go_sem, l0_2])
  clear c0_0_2 c0_1_2 l0_2
  have ne1_0 : ¬ w2.heap.size = w.heap.size := by omega
  have ne0_1 : ¬ w.heap.size = w2.heap.size := by omega
  go_wp2_with fail
  refine (ceil_any an av _).mono ?_
  rw [E1.out]
  rintro e w4 ⟨rfl, hB4⟩
  have hz4 := hB4.size
  simp at hz4
  have l0_4 : w.heap.size < w4.heap.size := by omega
  have l1_4 : w2.heap.size < w4.heap.size := by omega
  have l2_4 : w3.heap.size < w4.heap.size := by omega
  have c0_0_4 : w4.cell? ⟨w.heap.size, 0, none⟩ = some (.bool an) := hB4.keep (by first | (simp; done) | (simp; omega)) (by simp [go_sem, l0_3, l1_3, c0_0_3])
  have c0_1_4 : w4.cell? ⟨w.heap.size, 1, none⟩ = some (.int .i64 av) := hB4.keep (by first | (simp; done) | (simp; omega)) (by simp [go_sem, l0_3, l1_3, c0_1_3])
  have c1_0_4 : w4.cell? ⟨w2.heap.size, 0, none⟩ = some (.bool r0) := hB4.keep (by first | (simp; done) | (simp; omega)) (by simp [go_sem, l0_3, l1_3, c1_0_3])
  have f1_0_4 : w4.frozen? ⟨w2.heap.size, 0, none⟩ = false := hB4.free (by first | (simp; done) | (simp; omega)) (by simp [go_sem, l0_3, l1_3, f1_0_3])
  have c1_1_4 : w4.cell? ⟨w2.heap.size, 1, none⟩ = some (.int .i64 s0) := hB4.keep (by first | (simp; done) | (simp; omega)) (by simp [go_sem, l0_3, l1_3, c1_1_3])
  have f1_1_4 : w4.frozen? ⟨w2.heap.size, 1, none⟩ = false := hB4.free (by first | (simp; done) | (simp; omega)) (by simp [go_sem, l0_3, l1_3, f1_1_3])
  have c2_0_4 : w4.cell? ⟨w3.heap.size, 0, none⟩ = some (.bool r0) := hB4.keep (by first | (simp; done) | (simp; omega)) (by simp [go_sem, l0_3, l1_3])
  have f2_0_4 : w4.frozen? ⟨w3.heap.size, 0, none⟩ = false := hB4.free (by first | (simp; done) | (simp; omega)) (by simp [go_sem, l0_3, l1_3])
  have c2_1_4 : w4.cell? ⟨w3.heap.size, 1, none⟩ = some (.int .i64 s0) := hB4.keep (by first | (simp; done) | (simp; omega)) (by simp [go_sem, l0_3, l1_3])
  have f2_1_4 : w4.frozen? ⟨w3.heap.size, 1, none⟩ = false := hB4.free (by first | (simp; done) | (simp; omega)) (by simp [go_sem, l0_3, l1_3])
  clear c0_0_3 c0_1_3 c1_0_3 c1_1_3 l0_3 l1_3 f1_0_3 f1_1_3
  have ne1_2 : ¬ w2.heap.size = w3.heap.size := by omega
  have ne2_1 : ¬ w3.heap.size = w2.heap.size := by omega
  have ne2_0 : ¬ w3.heap.size = w.heap.size := by omega
  have ne0_2 : ¬ w.heap.size = w3.heap.size := by omega
  go_wp2_with fail
  refine (rceil_any an av _).mono ?_
  rw [E1.out]
  rintro e w5 ⟨rfl, hB5⟩
  have hz5 := hB5.size
  simp at hz5
  have l0_5 : w.heap.size < w5.heap.size := by omega
  have l1_5 : w2.heap.size < w5.heap.size := by omega
  have l2_5 : w3.heap.size < w5.heap.size := by omega
  have c0_0_5 : w5.cell? ⟨w.heap.size, 0, none⟩ = some (.bool an) := hB5.keep (by first | (simp; done) | (simp; omega)) (by simp [go_sem, l0_4, l1_4, l2_4, c1_0_4, c1_1_4, c0_0_4])
  have c0_1_5 : w5.cell? ⟨w.heap.size, 1, none⟩ = some (.int .i64 av) := hB5.keep (by first | (simp; done) | (simp; omega)) (by simp [go_sem, l0_4, l1_4, l2_4, c1_0_4, c1_1_4, c0_1_4])
  have c1_0_5 : w5.cell? ⟨w2.heap.size, 0, none⟩ = some (.bool r1) := hB5.keep (by first | (simp; done) | (simp; omega)) (by simp [go_sem, l0_4, l1_4, l2_4, c1_0_4, c1_1_4])
  have f1_0_5 : w5.frozen? ⟨w2.heap.size, 0, none⟩ = false := hB5.free (by first | (simp; done) | (simp; omega)) (by simp [go_sem, l0_4, l1_4, l2_4, f1_0_4])
  have c1_1_5 : w5.cell? ⟨w2.heap.size, 1, none⟩ = some (.int .i64 s1) := hB5.keep (by first | (simp; done) | (simp; omega)) (by simp [go_sem, l0_4, l1_4, l2_4, c1_0_4, c1_1_4])
  have f1_1_5 : w5.frozen? ⟨w2.heap.size, 1, none⟩ = false := hB5.free (by first | (simp; done) | (simp; omega)) (by simp [go_sem, l0_4, l1_4, l2_4, f1_1_4])
  have c2_0_5 : w5.cell? ⟨w3.heap.size, 0, none⟩ = some (.bool r0) := hB5.keep (by first | (simp; done) | (simp; omega)) (by simp [go_sem, l0_4, l1_4, l2_4, c1_0_4, c1_1_4, c2_0_4])
  have f2_0_5 : w5.frozen? ⟨w3.heap.size, 0, none⟩ = false := hB5.free (by first | (simp; done) | (simp; omega)) (by simp [go_sem, l0_4, l1_4, l2_4, f2_0_4])
  have c2_1_5 : w5.cell? ⟨w3.heap.size, 1, none⟩ = some (.int .i64 s0) := hB5.keep (by first | (simp; done) | (simp; omega)) (by simp [go_sem, l0_4, l1_4, l2_4, c1_0_4, c1_1_4, c2_1_4])
  have f2_1_5 : w5.frozen? ⟨w3.heap.size, 1, none⟩ = false := hB5.free (by first | (simp; done) | (simp; omega)) (by simp [go_sem, l0_4, l1_4, l2_4, f2_1_4])
  clear c0_0_4 c0_1_4 c1_0_4 c1_1_4 c2_0_4 c2_1_4 l0_4 l1_4 l2_4 f1_0_4 f1_1_4 f2_0_4 f2_1_4
  go_wp2_with fail
  refine (round_any an av _).mono ?_
  rw [E2.out]
  rintro e w6 ⟨rfl, hB6⟩
  have hz6 := hB6.size
  simp at hz6
  have l0_6 : w.heap.size < w6.heap.size := by omega
  have l1_6 : w2.heap.size < w6.heap.size := by omega
  have l2_6 : w3.heap.size < w6.heap.size := by omega
  have c0_0_6 : w6.cell? ⟨w.heap.size, 0, none⟩ = some (.bool an) := hB6.keep (by first | (simp; done) | (simp; omega)) (by simp [go_sem, l0_5, l1_5, l2_5, c2_0_5, c2_1_5, c0_0_5])
  have c0_1_6 : w6.cell? ⟨w.heap.size, 1, none⟩ = some (.int .i64 av) := hB6.keep (by first | (simp; done) | (simp; omega)) (by simp [go_sem, l0_5, l1_5, l2_5, c2_0_5, c2_1_5, c0_1_5])
  have c1_0_6 : w6.cell? ⟨w2.heap.size, 0, none⟩ = some (.bool r1) := hB6.keep (by first | (simp; done) | (simp; omega)) (by simp [go_sem, l0_5, l1_5, l2_5, c2_0_5, c2_1_5, c1_0_5])
  have f1_0_6 : w6.frozen? ⟨w2.heap.size, 0, none⟩ = false := hB6.free (by first | (simp; done) | (simp; omega)) (by simp [go_sem, l0_5, l1_5, l2_5, f1_0_5])
  have c1_1_6 : w6.cell? ⟨w2.heap.size, 1, none⟩ = some (.int .i64 s1) := hB6.keep (by first | (simp; done) | (simp; omega)) (by simp [go_sem, l0_5, l1_5, l2_5, c2_0_5, c2_1_5, c1_1_5])
  have f1_1_6 : w6.frozen? ⟨w2.heap.size, 1, none⟩ = false := hB6.free (by first | (simp; done) | (simp; omega)) (by simp [go_sem, l0_5, l1_5, l2_5, f1_1_5])
  have c2_0_6 : w6.cell? ⟨w3.heap.size, 0, none⟩ = some (.bool r1) := hB6.keep (by first | (simp; done) | (simp; omega)) (by simp [go_sem, l0_5, l1_5, l2_5, c2_0_5, c2_1_5])
  have f2_0_6 : w6.frozen? ⟨w3.heap.size, 0, none⟩ = false := hB6.free (by first | (simp; done) | (simp; omega)) (by simp [go_sem, l0_5, l1_5, l2_5, f2_0_5])
  have c2_1_6 : w6.cell? ⟨w3.heap.size, 1, none⟩ = some (.int .i64 s1) := hB6.keep (by first | (simp; done) | (simp; omega)) (by simp [go_sem, l0_5, l1_5, l2_5, c2_0_5, c2_1_5])
  have f2_1_6 : w6.frozen? ⟨w3.heap.size, 1, none⟩ = false := hB6.free (by first | (simp; done) | (simp; omega)) (by simp [go_sem, l0_5, l1_5, l2_5, f2_1_5])
  clear c0_0_5 c0_1_5 c1_0_5 c1_1_5 c2_0_5 c2_1_5 l0_5 l1_5 l2_5 f1_0_5 f1_1_5 f2_0_5 f2_1_5
  go_wp2_with fail
  refine (rround1_any an av _).mono ?_
  rw [E2.out]
  rintro e w7 ⟨rfl, hB7⟩
  have hz7 := hB7.size
  simp at hz7
  have l0_7 : w.heap.size < w7.heap.size := by omega
  have l1_7 : w2.heap.size < w7.heap.size := by omega
  have l2_7 : w3.heap.size < w7.heap.size := by omega
  have c0_0_7 : w7.cell? ⟨w.heap.size, 0, none⟩ = some (.bool an) := hB7.keep (by first | (simp; done) | (simp; omega)) (by simp [go_sem, l0_6, l1_6, l2_6, c1_0_6, c1_1_6, c0_0_6])
  have c0_1_7 : w7.cell? ⟨w.heap.size, 1, none⟩ = some (.int .i64 av) := hB7.keep (by first | (simp; done) | (simp; omega)) (by simp [go_sem, l0_6, l1_6, l2_6, c1_0_6, c1_1_6, c0_1_6])
  have c1_0_7 : w7.cell? ⟨w2.heap.size, 0, none⟩ = some (.bool r2) := hB7.keep (by first | (simp; done) | (simp; omega)) (by simp [go_sem, l0_6, l1_6, l2_6, c1_0_6, c1_1_6])
  have f1_0_7 : w7.frozen? ⟨w2.heap.size, 0, none⟩ = false := hB7.free (by first | (simp; done) | (simp; omega)) (by simp [go_sem, l0_6, l1_6, l2_6, f1_0_6])
  have c1_1_7 : w7.cell? ⟨w2.heap.size, 1, none⟩ = some (.int .i64 s2) := hB7.keep (by first | (simp; done) | (simp; omega)) (by simp [go_sem, l0_6, l1_6, l2_6, c1_0_6, c1_1_6])
  have f1_1_7 : w7.frozen? ⟨w2.heap.size, 1, none⟩ = false := hB7.free (by first | (simp; done) | (simp; omega)) (by simp [go_sem, l0_6, l1_6, l2_6, f1_1_6])
  have c2_0_7 : w7.cell? ⟨w3.heap.size, 0, none⟩ = some (.bool r1) := hB7.keep (by first | (simp; done) | (simp; omega)) (by simp [go_sem, l0_6, l1_6, l2_6, c1_0_6, c1_1_6, c2_0_6])
  have f2_0_7 : w7.frozen? ⟨w3.heap.size, 0, none⟩ = false := hB7.free (by first | (simp; done) | (simp; omega)) (by simp [go_sem, l0_6, l1_6, l2_6, f2_0_6])
  have c2_1_7 : w7.cell? ⟨w3.heap.size, 1, none⟩ = some (.int .i64 s1) := hB7.keep (by first | (simp; done) | (simp; omega)) (by simp [go_sem, l0_6, l1_6, l2_6, c1_0_6, c1_1_6, c2_1_6])
  have f2_1_7 : w7.frozen? ⟨w3.heap.size, 1, none⟩ = false := hB7.free (by first | (simp; done) | (simp; omega)) (by simp [go_sem, l0_6, l1_6, l2_6, f2_1_6])
  clear c0_0_6 c0_1_6 c1_0_6 c1_1_6 c2_0_6 c2_1_6 l0_6 l1_6 l2_6 f1_0_6 f1_1_6 f2_0_6 f2_1_6
  go_wp2_with fail
  refine (of_any n _).mono ?_
  rw [E3.out]
  rintro e w8 ⟨rfl, hB8⟩
  have hz8 := hB8.size
  simp at hz8
  have l0_8 : w.heap.size < w8.heap.size := by omega
  have l1_8 : w2.heap.size < w8.heap.size := by omega
  have l2_8 : w3.heap.size < w8.heap.size := by omega
  have c0_0_8 : w8.cell? ⟨w.heap.size, 0, none⟩ = some (.bool an) := hB8.keep (by first | (simp; done) | (simp; omega)) (by simp [go_sem, l0_7, l1_7, l2_7, c2_0_7, c2_1_7, c0_0_7])
  have c0_1_8 : w8.cell? ⟨w.heap.size, 1, none⟩ = some (.int .i64 av) := hB8.keep (by first | (simp; done) | (simp; omega)) (by simp [go_sem, l0_7, l1_7, l2_7, c2_0_7, c2_1_7, c0_1_7])
  have c1_0_8 : w8.cell? ⟨w2.heap.size, 0, none⟩ = some (.bool r2) := hB8.keep (by first | (simp; done) | (simp; omega)) (by simp [go_sem, l0_7, l1_7, l2_7, c2_0_7, c2_1_7, c1_0_7])
  have f1_0_8 : w8.frozen? ⟨w2.heap.size, 0, none⟩ = false := hB8.free (by first | (simp; done) | (simp; omega)) (by simp [go_sem, l0_7, l1_7, l2_7, f1_0_7])
  have c1_1_8 : w8.cell? ⟨w2.heap.size, 1, none⟩ = some (.int .i64 s2) := hB8.keep (by first | (simp; done) | (simp; omega)) (by simp [go_sem, l0_7, l1_7, l2_7, c2_0_7, c2_1_7, c1_1_7])
  have f1_1_8 : w8.frozen? ⟨w2.heap.size, 1, none⟩ = false := hB8.free (by first | (simp; done) | (simp; omega)) (by simp [go_sem, l0_7, l1_7, l2_7, f1_1_7])
  have c2_0_8 : w8.cell? ⟨w3.heap.size, 0, none⟩ = some (.bool r2) := hB8.keep (by first | (simp; done) | (simp; omega)) (by simp [go_sem, l0_7, l1_7, l2_7, c2_0_7, c2_1_7])
  have f2_0_8 : w8.frozen? ⟨w3.heap.size, 0, none⟩ = false := hB8.free (by first | (simp; done) | (simp; omega)) (by simp [go_sem, l0_7, l1_7, l2_7, f2_0_7])
  have c2_1_8 : w8.cell? ⟨w3.heap.size, 1, none⟩ = some (.int .i64 s2) := hB8.keep (by first | (simp; done) | (simp; omega)) (by simp [go_sem, l0_7, l1_7, l2_7, c2_0_7, c2_1_7])
  have f2_1_8 : w8.frozen? ⟨w3.heap.size, 1, none⟩ = false := hB8.free (by first | (simp; done) | (simp; omega)) (by simp [go_sem, l0_7, l1_7, l2_7, f2_1_7])
  clear c0_0_7 c0_1_7 c1_0_7 c1_1_7 c2_0_7 c2_1_7 l0_7 l1_7 l2_7 f1_0_7 f1_1_7 f2_0_7 f2_1_7
  go_wp2_with fail
  refine (rof_any n _).mono ?_
  rw [E3.out]
  rintro e w9 ⟨rfl, hB9⟩
  have hz9 := hB9.size
  simp at hz9
  have l0_9 : w.heap.size < w9.heap.size := by omega
  have l1_9 : w2.heap.size < w9.heap.size := by omega
  have l2_9 : w3.heap.size < w9.heap.size := by omega
  have c0_0_9 : w9.cell? ⟨w.heap.size, 0, none⟩ = some (.bool an) := hB9.keep (by first | (simp; done) | (simp; omega)) (by simp [go_sem, l0_8, l1_8, l2_8, c1_0_8, c1_1_8, c0_0_8])
  have c0_1_9 : w9.cell? ⟨w.heap.size, 1, none⟩ = some (.int .i64 av) := hB9.keep (by first | (simp; done) | (simp; omega)) (by simp [go_sem, l0_8, l1_8, l2_8, c1_0_8, c1_1_8, c0_1_8])
  have c1_0_9 : w9.cell? ⟨w2.heap.size, 0, none⟩ = some (.bool r3) := hB9.keep (by first | (simp; done) | (simp; omega)) (by simp [go_sem, l0_8, l1_8, l2_8, c1_0_8, c1_1_8])
  have f1_0_9 : w9.frozen? ⟨w2.heap.size, 0, none⟩ = false := hB9.free (by first | (simp; done) | (simp; omega)) (by simp [go_sem, l0_8, l1_8, l2_8, f1_0_8])
  have c1_1_9 : w9.cell? ⟨w2.heap.size, 1, none⟩ = some (.int .i64 s3) := hB9.keep (by first | (simp; done) | (simp; omega)) (by simp [go_sem, l0_8, l1_8, l2_8, c1_0_8, c1_1_8])
  have f1_1_9 : w9.frozen? ⟨w2.heap.size, 1, none⟩ = false := hB9.free (by first | (simp; done) | (simp; omega)) (by simp [go_sem, l0_8, l1_8, l2_8, f1_1_8])
  have c2_0_9 : w9.cell? ⟨w3.heap.size, 0, none⟩ = some (.bool r2) := hB9.keep (by first | (simp; done) | (simp; omega)) (by simp [go_sem, l0_8, l1_8, l2_8, c1_0_8, c1_1_8, c2_0_8])
  have f2_0_9 : w9.frozen? ⟨w3.heap.size, 0, none⟩ = false := hB9.free (by first | (simp; done) | (simp; omega)) (by simp [go_sem, l0_8, l1_8, l2_8, f2_0_8])
  have c2_1_9 : w9.cell? ⟨w3.heap.size, 1, none⟩ = some (.int .i64 s2) := hB9.keep (by first | (simp; done) | (simp; omega)) (by simp [go_sem, l0_8, l1_8, l2_8, c1_0_8, c1_1_8, c2_1_8])
  have f2_1_9 : w9.frozen? ⟨w3.heap.size, 1, none⟩ = false := hB9.free (by first | (simp; done) | (simp; omega)) (by simp [go_sem, l0_8, l1_8, l2_8, f2_1_8])
  clear c0_0_8 c0_1_8 c1_0_8 c1_1_8 c2_0_8 c2_1_8 l0_8 l1_8 l2_8 f1_0_8 f1_1_8 f2_0_8 f2_1_8
  go_wp2_with fail
  refine (neg_any an av _).mono ?_
  rw [EN.out]
  rintro e w10 ⟨rfl, hB10⟩
  have hz10 := hB10.size
  simp at hz10
  have l0_10 : w.heap.size < w10.heap.size := by omega
  have l1_10 : w2.heap.size < w10.heap.size := by omega
  have l2_10 : w3.heap.size < w10.heap.size := by omega
  have c0_0_10 : w10.cell? ⟨w.heap.size, 0, none⟩ = some (.bool an) := hB10.keep (by first | (simp; done) | (simp; omega)) (by simp [go_sem, l0_9, l1_9, l2_9, c2_0_9, c2_1_9, c0_0_9])
  have c0_1_10 : w10.cell? ⟨w.heap.size, 1, none⟩ = some (.int .i64 av) := hB10.keep (by first | (simp; done) | (simp; omega)) (by simp [go_sem, l0_9, l1_9, l2_9, c2_0_9, c2_1_9, c0_1_9])
  have c1_0_10 : w10.cell? ⟨w2.heap.size, 0, none⟩ = some (.bool r3) := hB10.keep (by first | (simp; done) | (simp; omega)) (by simp [go_sem, l0_9, l1_9, l2_9, c2_0_9, c2_1_9, c1_0_9])
  have f1_0_10 : w10.frozen? ⟨w2.heap.size, 0, none⟩ = false := hB10.free (by first | (simp; done) | (simp; omega)) (by simp [go_sem, l0_9, l1_9, l2_9, f1_0_9])
  have c1_1_10 : w10.cell? ⟨w2.heap.size, 1, none⟩ = some (.int .i64 s3) := hB10.keep (by first | (simp; done) | (simp; omega)) (by simp [go_sem, l0_9, l1_9, l2_9, c2_0_9, c2_1_9, c1_1_9])
  have f1_1_10 : w10.frozen? ⟨w2.heap.size, 1, none⟩ = false := hB10.free (by first | (simp; done) | (simp; omega)) (by simp [go_sem, l0_9, l1_9, l2_9, f1_1_9])
  have c2_0_10 : w10.cell? ⟨w3.heap.size, 0, none⟩ = some (.bool r3) := hB10.keep (by first | (simp; done) | (simp; omega)) (by simp [go_sem, l0_9, l1_9, l2_9, c2_0_9, c2_1_9])
  have f2_0_10 : w10.frozen? ⟨w3.heap.size, 0, none⟩ = false := hB10.free (by first | (simp; done) | (simp; omega)) (by simp [go_sem, l0_9, l1_9, l2_9, f2_0_9])
  have c2_1_10 : w10.cell? ⟨w3.heap.size, 1, none⟩ = some (.int .i64 s3) := hB10.keep (by first | (simp; done) | (simp; omega)) (by simp [go_sem, l0_9, l1_9, l2_9, c2_0_9, c2_1_9])
  have f2_1_10 : w10.frozen? ⟨w3.heap.size, 1, none⟩ = false := hB10.free (by first | (simp; done) | (simp; omega)) (by simp [go_sem, l0_9, l1_9, l2_9, f2_1_9])
  clear c0_0_9 c0_1_9 c1_0_9 c1_1_9 c2_0_9 c2_1_9 l0_9 l1_9 l2_9 f1_0_9 f1_1_9 f2_0_9 f2_1_9
  go_wp2_with fail
  obtain ⟨w11, hW11⟩ : ∃ wz, (w10.alloc (.cells #[.bool true, .int .i64 0] 38)) = wz := ⟨_, rfl⟩
  rw [hW11]
  have hB11 : Ext (w10.alloc (.cells #[.bool true, .int .i64 0] 38)) w11 := by rw [hW11]; exact Ext.refl _
  clear hW11
  have hz11 := hB11.size
  simp at hz11
  have l0_11 : w.heap.size < w11.heap.size := by omega
  have l1_11 : w2.heap.size < w11.heap.size := by omega
  have l2_11 : w3.heap.size < w11.heap.size := by omega
  have l3_11 : w10.heap.size < w11.heap.size := by omega
  have c0_0_11 : w11.cell? ⟨w.heap.size, 0, none⟩ = some (.bool an) := hB11.keep (by first | (simp; done) | (simp; omega)) (by simp [go_sem, l0_10, l1_10, l2_10, c0_0_10])
  have c0_1_11 : w11.cell? ⟨w.heap.size, 1, none⟩ = some (.int .i64 av) := hB11.keep (by first | (simp; done) | (simp; omega)) (by simp [go_sem, l0_10, l1_10, l2_10, c0_1_10])
  have c1_0_11 : w11.cell? ⟨w2.heap.size, 0, none⟩ = some (.bool r3) := hB11.keep (by first | (simp; done) | (simp; omega)) (by simp [go_sem, l0_10, l1_10, l2_10, c1_0_10])
  have f1_0_11 : w11.frozen? ⟨w2.heap.size, 0, none⟩ = false := hB11.free (by first | (simp; done) | (simp; omega)) (by simp [go_sem, l0_10, l1_10, l2_10, f1_0_10])
  have c1_1_11 : w11.cell? ⟨w2.heap.size, 1, none⟩ = some (.int .i64 s3) := hB11.keep (by first | (simp; done) | (simp; omega)) (by simp [go_sem, l0_10, l1_10, l2_10, c1_1_10])
  have f1_1_11 : w11.frozen? ⟨w2.heap.size, 1, none⟩ = false := hB11.free (by first | (simp; done) | (simp; omega)) (by simp [go_sem, l0_10, l1_10, l2_10, f1_1_10])
  have c2_0_11 : w11.cell? ⟨w3.heap.size, 0, none⟩ = some (.bool r3) := hB11.keep (by first | (simp; done) | (simp; omega)) (by simp [go_sem, l0_10, l1_10, l2_10, c2_0_10])
  have f2_0_11 : w11.frozen? ⟨w3.heap.size, 0, none⟩ = false := hB11.free (by first | (simp; done) | (simp; omega)) (by simp [go_sem, l0_10, l1_10, l2_10, f2_0_10])
  have c2_1_11 : w11.cell? ⟨w3.heap.size, 1, none⟩ = some (.int .i64 s3) := hB11.keep (by first | (simp; done) | (simp; omega)) (by simp [go_sem, l0_10, l1_10, l2_10, c2_1_10])
  have f2_1_11 : w11.frozen? ⟨w3.heap.size, 1, none⟩ = false := hB11.free (by first | (simp; done) | (simp; omega)) (by simp [go_sem, l0_10, l1_10, l2_10, f2_1_10])
  have c3_0_11 : w11.cell? ⟨w10.heap.size, 0, none⟩ = some (.bool true) := hB11.keep (by first | (simp; done) | (simp; omega)) (by simp [go_sem, l0_10, l1_10, l2_10])
  have c3_1_11 : w11.cell? ⟨w10.heap.size, 1, none⟩ = some (.int .i64 0) := hB11.keep (by first | (simp; done) | (simp; omega)) (by simp [go_sem, l0_10, l1_10, l2_10])
  clear c0_0_10 c0_1_10 c1_0_10 c1_1_10 c2_0_10 c2_1_10 l0_10 l1_10 l2_10 f1_0_10 f1_1_10 f2_0_10 f2_1_10
  have ne1_3 : ¬ w2.heap.size = w10.heap.size := by omega
  have ne3_1 : ¬ w10.heap.size = w2.heap.size := by omega
  have ne2_3 : ¬ w3.heap.size = w10.heap.size := by omega
  have ne3_2 : ¬ w10.heap.size = w3.heap.size := by omega
  have hX : Ext w w11 := by
    repeat (first | exact Ext.refl _ | refine Ext.set ?_ (by dsimp only; omega) _ | refine Ext.alloc ?_ _ | refine Ext.drew ?_ | refine (Ext.trans ?_ (by assumption)))
  have GR := (G.ext hX).drew
  have ht : Hid (tx.size ≤ 9223372036854775807) := by
    refine Lib.hid ?_; rw [← ET.out, bs_size]; have := textS_len an av; omega
  clear hX ht
  go_wp2_with fail
  refine rg_begin (S := Sx w11) (by kernel_rfl) (Sx.begin _) ?_
  have hS : Sx w11 (World.drew w11) := Sx.begin _
  refine rg_take 0 (some 78) (.agg #[.bool r3, .int .i64 s3]) (oi := { dst := some 78, op := Go.Op.load 38 (Go.Operand.tmp 5), type := 38, pos := "law.go:71", after := #[], guard := none }) rfl rfl (by kernel_rfl) (by kernel_rfl) (by kernel_rfl) (fun _ _ _ h => h) hS (by rfl) (fun w' hs => by (have h0 := hs.cell l1_11 c1_0_11; have h1 := hs.cell l1_11 c1_1_11; go_simp)) ?_
  simp only [Act.put, List.setIfInBounds_toArray, List.set_cons_zero, List.set_cons_succ]
  refine rg_take 1 (some 79) (.agg #[.bool r3, .int .i64 s3]) (oi := { dst := some 79, op := Go.Op.load 38 (Go.Operand.tmp 7), type := 38, pos := "law.go:71", after := #[], guard := none }) rfl rfl (by kernel_rfl) (by kernel_rfl) (by kernel_rfl) (fun _ _ _ h => h) hS (by rfl) (fun w' hs => by (have h0 := hs.cell l2_11 c2_0_11; have h1 := hs.cell l2_11 c2_1_11; go_simp)) ?_
  simp only [Act.put, List.setIfInBounds_toArray, List.set_cons_zero, List.set_cons_succ]
  refine rg_take 2 (some 80) (.bool true) (oi := { dst := some 80, op := Go.Op.binOp Go.BinOp.eql 38 (Go.Operand.tmp 78) (Go.Operand.tmp 79) 38, type := 4, pos := "law.go:71", after := #[{ on := 0, ground := Go.Ground.data }, { on := 1, ground := Go.Ground.data }], guard := none }) rfl rfl (by kernel_rfl) (by kernel_rfl) (by kernel_rfl) (fun _ _ _ h => h) hS (by rfl) (fun w' hs => by first | rfl | go_simp) ?_
  simp only [Act.put, List.setIfInBounds_toArray, List.set_cons_zero, List.set_cons_succ]
  refine rg_take 3 (some 81) (.bool true) (oi := { dst := some 81, op := Go.Op.move (Go.Operand.tmp 80), type := 4, pos := "law.go:71", after := #[{ on := 2, ground := Go.Ground.data }], guard := none }) rfl rfl (by kernel_rfl) (by kernel_rfl) (by kernel_rfl) (fun _ _ _ h => h) hS (by rfl) (fun w' hs => by rfl) ?_
  simp only [Act.put, List.setIfInBounds_toArray, List.set_cons_zero, List.set_cons_succ]
  refine rg_take 4 (some 82) (.int .i64 t3) (oi := { dst := some 82, op := Go.Op.move (Go.Operand.tmp 6), type := 34, pos := "law.go:71", after := #[{ on := 3, ground := Go.Ground.guard }], guard := some (3, true) }) rfl rfl (by kernel_rfl) (by kernel_rfl) (by kernel_rfl) (fun _ _ _ h => h) hS (by rfl) (fun w' hs => by rfl) ?_
  simp only [Act.put, List.setIfInBounds_toArray, List.set_cons_zero, List.set_cons_succ]
  refine rg_take 5 (some 83) (.int .i64 t3) (oi := { dst := some 83, op := Go.Op.move (Go.Operand.tmp 8), type := 34, pos := "law.go:71", after := #[{ on := 3, ground := Go.Ground.guard }], guard := some (3, true) }) rfl rfl (by kernel_rfl) (by kernel_rfl) (by kernel_rfl) (fun _ _ _ h => h) hS (by rfl) (fun w' hs => by rfl) ?_
  simp only [Act.put, List.setIfInBounds_toArray, List.set_cons_zero, List.set_cons_succ]
  refine rg_take 6 (some 84) (.bool true) (oi := { dst := some 84, op := Go.Op.binOp Go.BinOp.eql 34 (Go.Operand.tmp 82) (Go.Operand.tmp 83) 34, type := 4, pos := "law.go:71", after := #[{ on := 4, ground := Go.Ground.data }, { on := 5, ground := Go.Ground.data }, { on := 3, ground := Go.Ground.guard }], guard := some (3, true) }) rfl rfl (by kernel_rfl) (by kernel_rfl) (by kernel_rfl) (fun _ _ _ h => h) hS (by rfl) (fun w' hs => by first | rfl | go_simp) ?_
  simp only [Act.put, List.setIfInBounds_toArray, List.set_cons_zero, List.set_cons_succ]
  refine rg_take 7 (some 85) (.bool true) (oi := { dst := some 85, op := Go.Op.pick (Go.Operand.tmp 81) (Go.Operand.tmp 84) (Go.Operand.const (Go.Value.bool false)), type := 4, pos := "law.go:71", after := #[{ on := 3, ground := Go.Ground.data }, { on := 6, ground := Go.Ground.data }], guard := none }) rfl rfl (by kernel_rfl) (by kernel_rfl) (by kernel_rfl) (fun _ _ _ h => h) hS (by rfl) (fun w' hs => by rfl) ?_
  simp only [Act.put, List.setIfInBounds_toArray, List.set_cons_zero, List.set_cons_succ]
  refine rg_take 8 (some 86) (.bool true) (oi := { dst := some 86, op := Go.Op.move (Go.Operand.tmp 85), type := 4, pos := "law.go:71", after := #[{ on := 7, ground := Go.Ground.data }, { on := 3, ground := Go.Ground.chain }], guard := none }) rfl rfl (by kernel_rfl) (by kernel_rfl) (by kernel_rfl) (fun _ _ _ h => h) hS (by rfl) (fun w' hs => by rfl) ?_
  simp only [Act.put, List.setIfInBounds_toArray, List.set_cons_zero, List.set_cons_succ]
  refine rg_take 9 (some 87) (.agg #[.bool an, .int .i64 av]) (oi := { dst := some 87, op := Go.Op.load 38 (Go.Operand.tmp 2), type := 38, pos := "law.go:71", after := #[{ on := 8, ground := Go.Ground.guard }], guard := some (8, true) }) rfl rfl (by kernel_rfl) (by kernel_rfl) (by kernel_rfl) (fun _ _ _ h => h) hS (by rfl) (fun w' hs => by (have h0 := hs.cell l0_11 c0_0_11; have h1 := hs.cell l0_11 c0_1_11; go_simp)) ?_
  simp only [Act.put, List.setIfInBounds_toArray, List.set_cons_zero, List.set_cons_succ]
  refine rg_take 11 (some 89) (.agg #[.bool an, .int .i64 av]) (oi := { dst := some 89, op := Go.Op.load 38 (Go.Operand.tmp 2), type := 38, pos := "law.go:71", after := #[{ on := 8, ground := Go.Ground.guard }], guard := some (8, true) }) rfl rfl (by kernel_rfl) (by kernel_rfl) (by kernel_rfl) (fun _ _ _ h => h) hS (by rfl) (fun w' hs => by (have h0 := hs.cell l0_11 c0_0_11; have h1 := hs.cell l0_11 c0_1_11; go_simp)) ?_
  simp only [Act.put, List.setIfInBounds_toArray, List.set_cons_zero, List.set_cons_succ]
  refine rg_call 10 (some 88) 23 #[.agg #[.bool an, .int .i64 av]] (oi := { dst := some 88, op := Go.Op.call { callee := Go.Callee.value (Go.Operand.func 23), args := #[Go.Operand.tmp 87], argTypes := #[38] }, type := 9, pos := "law.go:71", after := #[{ on := 9, ground := Go.Ground.data }, { on := 8, ground := Go.Ground.chain }, { on := 8, ground := Go.Ground.guard }], guard := some (8, true) }) rfl rfl (by kernel_rfl) (by rfl) (fun w' => by first | rfl | go_simp) (R := fun v w' => v = .string tx ∧ Ext (World.drew w11) w') ?_ ?_
  · refine (text_any an av _ GR).mono ?_
    rw [ET.out]
    rintro e w' ⟨rfl, h⟩
    exact ⟨_, rfl, rfl, h⟩
  rintro _ wr1 ⟨rfl, hBr1⟩
  have hS1 := hS.ext hBr1
  refine ⟨hS1, ?_⟩
  simp only [Act.put, List.setIfInBounds_toArray, List.set_cons_zero, List.set_cons_succ]
  refine rg_call 12 (some 90) 48 #[.agg #[.bool an, .int .i64 av]] (oi := { dst := some 90, op := Go.Op.call { callee := Go.Callee.value (Go.Operand.func 48), args := #[Go.Operand.tmp 89], argTypes := #[38] }, type := 9, pos := "law.go:71", after := #[{ on := 11, ground := Go.Ground.data }, { on := 10, ground := Go.Ground.chain }, { on := 8, ground := Go.Ground.guard }], guard := some (8, true) }) rfl rfl (by kernel_rfl) (by rfl) (fun w' => by first | rfl | go_simp) (R := fun v w' => v = .string tx ∧ Ext wr1 w') ?_ ?_
  · refine (rtext_any an av _).mono ?_
    rw [ET.out]
    rintro e w' ⟨rfl, h⟩
    exact ⟨_, rfl, rfl, h⟩
  rintro _ wr2 ⟨rfl, hBr2⟩
  have hS2 := hS1.ext hBr2
  refine ⟨hS2, ?_⟩
  simp only [Act.put, List.setIfInBounds_toArray, List.set_cons_zero, List.set_cons_succ]
  refine rg_take 13 (some 91) (.bool true) (oi := { dst := some 91, op := Go.Op.binOp Go.BinOp.eql 9 (Go.Operand.tmp 88) (Go.Operand.tmp 90) 9, type := 4, pos := "law.go:71", after := #[{ on := 10, ground := Go.Ground.data }, { on := 12, ground := Go.Ground.data }, { on := 8, ground := Go.Ground.guard }], guard := some (8, true) }) rfl rfl (by kernel_rfl) (by kernel_rfl) (by kernel_rfl) (fun _ _ _ h => h) hS2 (by rfl) (fun w' hs => by first | rfl | go_simp) ?_
  simp only [Act.put, List.setIfInBounds_toArray, List.set_cons_zero, List.set_cons_succ]
  refine rg_take 14 (some 92) (.bool true) (oi := { dst := some 92, op := Go.Op.pick (Go.Operand.tmp 86) (Go.Operand.tmp 91) (Go.Operand.const (Go.Value.bool false)), type := 4, pos := "law.go:71", after := #[{ on := 8, ground := Go.Ground.data }, { on := 13, ground := Go.Ground.data }], guard := none }) rfl rfl (by kernel_rfl) (by kernel_rfl) (by kernel_rfl) (fun _ _ _ h => h) hS2 (by rfl) (fun w' hs => by rfl) ?_
  simp only [Act.put, List.setIfInBounds_toArray, List.set_cons_zero, List.set_cons_succ]
  refine rg_take 15 (some 93) (.bool true) (oi := { dst := some 93, op := Go.Op.move (Go.Operand.tmp 92), type := 4, pos := "law.go:71", after := #[{ on := 14, ground := Go.Ground.data }, { on := 12, ground := Go.Ground.chain }], guard := none }) rfl rfl (by kernel_rfl) (by kernel_rfl) (by kernel_rfl) (fun _ _ _ h => h) hS2 (by rfl) (fun w' hs => by rfl) ?_
  simp only [Act.put, List.setIfInBounds_toArray, List.set_cons_zero, List.set_cons_succ]
  refine rg_take 16 (some 94) (.pointer (some ⟨w10.heap.size, 0, none⟩)) (oi := { dst := some 94, op := Go.Op.fieldAddr 38 (Go.Operand.tmp 9) 0, type := 0, pos := "law.go:71", after := #[{ on := 15, ground := Go.Ground.guard }], guard := some (15, true) }) rfl rfl (by kernel_rfl) (by kernel_rfl) (by kernel_rfl) (fun _ _ _ h => h) hS2 (by rfl) (fun w' hs => by first | rfl | go_simp) ?_
  simp only [Act.put, List.setIfInBounds_toArray, List.set_cons_zero, List.set_cons_succ]
  refine rg_take 17 (some 95) (.bool true) (oi := { dst := some 95, op := Go.Op.load 4 (Go.Operand.tmp 94), type := 4, pos := "law.go:71", after := #[{ on := 16, ground := Go.Ground.data }, { on := 15, ground := Go.Ground.guard }], guard := some (15, true) }) rfl rfl (by kernel_rfl) (by kernel_rfl) (by kernel_rfl) (fun _ _ _ h => h) hS2 (by rfl) (fun w' hs => by (have h0 := hs.cell l3_11 c3_0_11; go_simp)) ?_
  simp only [Act.put, List.setIfInBounds_toArray, List.set_cons_zero, List.set_cons_succ]
  refine rg_take 18 (some 96) (.agg #[.bool an, .int .i64 av]) (oi := { dst := some 96, op := Go.Op.load 38 (Go.Operand.tmp 2), type := 38, pos := "law.go:71", after := #[{ on := 15, ground := Go.Ground.guard }], guard := some (15, true) }) rfl rfl (by kernel_rfl) (by kernel_rfl) (by kernel_rfl) (fun _ _ _ h => h) hS2 (by rfl) (fun w' hs => by (have h0 := hs.cell l0_11 c0_0_11; have h1 := hs.cell l0_11 c0_1_11; go_simp)) ?_
  simp only [Act.put, List.setIfInBounds_toArray, List.set_cons_zero, List.set_cons_succ]
  refine rg_call 19 (some 97) 24 #[.agg #[.bool an, .int .i64 av]] (oi := { dst := some 97, op := Go.Op.call { callee := Go.Callee.value (Go.Operand.func 24), args := #[Go.Operand.tmp 96], argTypes := #[38] }, type := 4, pos := "law.go:71", after := #[{ on := 18, ground := Go.Ground.data }, { on := 15, ground := Go.Ground.chain }, { on := 15, ground := Go.Ground.guard }], guard := some (15, true) }) rfl rfl (by kernel_rfl) (by rfl) (fun w' => by first | rfl | go_simp) (R := fun v w' => v = .bool true ∧ Ext wr2 w') ?_ ?_
  · refine (rodd_any an av _).mono ?_
    rw [HO.out]
    rintro e w' ⟨rfl, h⟩
    exact ⟨_, rfl, rfl, h⟩
  rintro _ wr3 ⟨rfl, hBr3⟩
  have hS3 := hS2.ext hBr3
  refine ⟨hS3, ?_⟩
  simp only [Act.put, List.setIfInBounds_toArray, List.set_cons_zero, List.set_cons_succ]
  refine rg_take 20 (some 98) (.bool true) (oi := { dst := some 98, op := Go.Op.binOp Go.BinOp.eql 4 (Go.Operand.tmp 95) (Go.Operand.tmp 97) 4, type := 4, pos := "law.go:71", after := #[{ on := 17, ground := Go.Ground.data }, { on := 19, ground := Go.Ground.data }, { on := 15, ground := Go.Ground.guard }], guard := some (15, true) }) rfl rfl (by kernel_rfl) (by kernel_rfl) (by kernel_rfl) (fun _ _ _ h => h) hS3 (by rfl) (fun w' hs => by first | rfl | go_simp) ?_
  simp only [Act.put, List.setIfInBounds_toArray, List.set_cons_zero, List.set_cons_succ]
  refine rg_take 21 (some 99) (.bool true) (oi := { dst := some 99, op := Go.Op.pick (Go.Operand.tmp 93) (Go.Operand.tmp 98) (Go.Operand.const (Go.Value.bool false)), type := 4, pos := "law.go:71", after := #[{ on := 15, ground := Go.Ground.data }, { on := 20, ground := Go.Ground.data }], guard := none }) rfl rfl (by kernel_rfl) (by kernel_rfl) (by kernel_rfl) (fun _ _ _ h => h) hS3 (by rfl) (fun w' hs => by rfl) ?_
  simp only [Act.put, List.setIfInBounds_toArray, List.set_cons_zero, List.set_cons_succ]
  refine rg_take 22 (some 100) (.bool true) (oi := { dst := some 100, op := Go.Op.move (Go.Operand.tmp 99), type := 4, pos := "law.go:71", after := #[{ on := 21, ground := Go.Ground.data }, { on := 19, ground := Go.Ground.chain }], guard := none }) rfl rfl (by kernel_rfl) (by kernel_rfl) (by kernel_rfl) (fun _ _ _ h => h) hS3 (by rfl) (fun w' hs => by rfl) ?_
  simp only [Act.put, List.setIfInBounds_toArray, List.set_cons_zero, List.set_cons_succ]
  refine rg_take 23 (some 101) (.pointer (some ⟨w10.heap.size, 0, none⟩)) (oi := { dst := some 101, op := Go.Op.fieldAddr 38 (Go.Operand.tmp 9) 0, type := 0, pos := "law.go:71", after := #[{ on := 22, ground := Go.Ground.guard }], guard := some (22, true) }) rfl rfl (by kernel_rfl) (by kernel_rfl) (by kernel_rfl) (fun _ _ _ h => h) hS3 (by rfl) (fun w' hs => by first | rfl | go_simp) ?_
  simp only [Act.put, List.setIfInBounds_toArray, List.set_cons_zero, List.set_cons_succ]
  refine rg_take 24 (some 102) (.bool true) (oi := { dst := some 102, op := Go.Op.load 4 (Go.Operand.tmp 101), type := 4, pos := "law.go:71", after := #[{ on := 23, ground := Go.Ground.data }, { on := 22, ground := Go.Ground.guard }], guard := some (22, true) }) rfl rfl (by kernel_rfl) (by kernel_rfl) (by kernel_rfl) (fun _ _ _ h => h) hS3 (by rfl) (fun w' hs => by (have h0 := hs.cell l3_11 c3_0_11; go_simp)) ?_
  simp only [Act.put, List.setIfInBounds_toArray, List.set_cons_zero, List.set_cons_succ]
  refine rg_take 25 (some 103) (.bool true) (oi := { dst := some 103, op := Go.Op.move (Go.Operand.tmp 102), type := 4, pos := "law.go:71", after := #[{ on := 24, ground := Go.Ground.data }, { on := 22, ground := Go.Ground.chain }, { on := 22, ground := Go.Ground.guard }], guard := some (22, true) }) rfl rfl (by kernel_rfl) (by kernel_rfl) (by kernel_rfl) (fun _ _ _ h => h) hS3 (by rfl) (fun w' hs => by rfl) ?_
  simp only [Act.put, List.setIfInBounds_toArray, List.set_cons_zero, List.set_cons_succ]
  refine rg_skip 26 (some 104) (oi := { dst := some 104, op := Go.Op.fieldAddr 38 (Go.Operand.tmp 9) 1, type := 0, pos := "law.go:71", after := #[{ on := 25, ground := Go.Ground.guard }], guard := some (25, false) }) rfl rfl (by kernel_rfl) (by kernel_rfl) (by kernel_rfl) (fun _ _ _ h => h) hS3 (by rfl) ?_
  simp only [Act.put, List.setIfInBounds_toArray, List.set_cons_zero, List.set_cons_succ]
  refine rg_skip 27 (some 105) (oi := { dst := some 105, op := Go.Op.load 2 (Go.Operand.tmp 104), type := 2, pos := "law.go:71", after := #[{ on := 26, ground := Go.Ground.data }, { on := 25, ground := Go.Ground.guard }], guard := some (25, false) }) rfl rfl (by kernel_rfl) (by kernel_rfl) (by kernel_rfl) (fun _ _ _ h => h) hS3 (by rfl) ?_
  simp only [Act.put, List.setIfInBounds_toArray, List.set_cons_zero, List.set_cons_succ]
  refine rg_skip 28 (some 106) (oi := { dst := some 106, op := Go.Op.fieldAddr 38 (Go.Operand.tmp 2) 1, type := 0, pos := "law.go:71", after := #[{ on := 25, ground := Go.Ground.guard }], guard := some (25, false) }) rfl rfl (by kernel_rfl) (by kernel_rfl) (by kernel_rfl) (fun _ _ _ h => h) hS3 (by rfl) ?_
  simp only [Act.put, List.setIfInBounds_toArray, List.set_cons_zero, List.set_cons_succ]
  refine rg_skip 29 (some 107) (oi := { dst := some 107, op := Go.Op.load 2 (Go.Operand.tmp 106), type := 2, pos := "law.go:71", after := #[{ on := 28, ground := Go.Ground.data }, { on := 25, ground := Go.Ground.guard }], guard := some (25, false) }) rfl rfl (by kernel_rfl) (by kernel_rfl) (by kernel_rfl) (fun _ _ _ h => h) hS3 (by rfl) ?_
  simp only [Act.put, List.setIfInBounds_toArray, List.set_cons_zero, List.set_cons_succ]
  refine rg_skip 30 (some 108) (oi := { dst := some 108, op := Go.Op.unOp Go.UnOp.neg 2 (Go.Operand.tmp 107), type := 2, pos := "law.go:71", after := #[{ on := 29, ground := Go.Ground.data }, { on := 25, ground := Go.Ground.guard }], guard := some (25, false) }) rfl rfl (by kernel_rfl) (by kernel_rfl) (by kernel_rfl) (fun _ _ _ h => h) hS3 (by rfl) ?_
  simp only [Act.put, List.setIfInBounds_toArray, List.set_cons_zero, List.set_cons_succ]
  refine rg_skip 31 (some 109) (oi := { dst := some 109, op := Go.Op.binOp Go.BinOp.eql 2 (Go.Operand.tmp 105) (Go.Operand.tmp 108) 2, type := 4, pos := "law.go:71", after := #[{ on := 27, ground := Go.Ground.data }, { on := 30, ground := Go.Ground.data }, { on := 25, ground := Go.Ground.guard }], guard := some (25, false) }) rfl rfl (by kernel_rfl) (by kernel_rfl) (by kernel_rfl) (fun _ _ _ h => h) hS3 (by rfl) ?_
  simp only [Act.put, List.setIfInBounds_toArray, List.set_cons_zero, List.set_cons_succ]
  refine rg_take 32 (some 110) (.bool true) (oi := { dst := some 110, op := Go.Op.pick (Go.Operand.tmp 103) (Go.Operand.const (Go.Value.bool true)) (Go.Operand.tmp 109), type := 4, pos := "law.go:71", after := #[{ on := 25, ground := Go.Ground.data }, { on := 31, ground := Go.Ground.data }, { on := 22, ground := Go.Ground.guard }], guard := some (22, true) }) rfl rfl (by kernel_rfl) (by kernel_rfl) (by kernel_rfl) (fun _ _ _ h => h) hS3 (by rfl) (fun w' hs => by rfl) ?_
  simp only [Act.put, List.setIfInBounds_toArray, List.set_cons_zero, List.set_cons_succ]
  refine rg_take 33 (some 111) (.bool true) (oi := { dst := some 111, op := Go.Op.pick (Go.Operand.tmp 100) (Go.Operand.tmp 110) (Go.Operand.const (Go.Value.bool false)), type := 4, pos := "law.go:71", after := #[{ on := 22, ground := Go.Ground.data }, { on := 32, ground := Go.Ground.data }], guard := none }) rfl rfl (by kernel_rfl) (by kernel_rfl) (by kernel_rfl) (fun _ _ _ h => h) hS3 (by rfl) (fun w' hs => by rfl) ?_
  simp only [Act.put, List.setIfInBounds_toArray, List.set_cons_zero, List.set_cons_succ]
  refine rg_take 34 (some 4) (.bool true) (oi := { dst := some 4, op := Go.Op.assign (Go.Operand.tmp 111), type := 4, pos := "law.go:71", after := #[{ on := 33, ground := Go.Ground.data }, { on := 25, ground := Go.Ground.chain }, { on := 0, ground := Go.Ground.phase }, { on := 1, ground := Go.Ground.phase }, { on := 2, ground := Go.Ground.phase }, { on := 3, ground := Go.Ground.phase }, { on := 4, ground := Go.Ground.phase }, { on := 5, ground := Go.Ground.phase }, { on := 6, ground := Go.Ground.phase }, { on := 7, ground := Go.Ground.phase }, { on := 8, ground := Go.Ground.phase }, { on := 9, ground := Go.Ground.phase }, { on := 10, ground := Go.Ground.phase }, { on := 11, ground := Go.Ground.phase }, { on := 12, ground := Go.Ground.phase }, { on := 13, ground := Go.Ground.phase }, { on := 14, ground := Go.Ground.phase }, { on := 15, ground := Go.Ground.phase }, { on := 16, ground := Go.Ground.phase }, { on := 17, ground := Go.Ground.phase }, { on := 18, ground := Go.Ground.phase }, { on := 19, ground := Go.Ground.phase }, { on := 20, ground := Go.Ground.phase }, { on := 21, ground := Go.Ground.phase }, { on := 22, ground := Go.Ground.phase }, { on := 23, ground := Go.Ground.phase }, { on := 24, ground := Go.Ground.phase }, { on := 25, ground := Go.Ground.phase }, { on := 26, ground := Go.Ground.phase }, { on := 27, ground := Go.Ground.phase }, { on := 28, ground := Go.Ground.phase }, { on := 29, ground := Go.Ground.phase }, { on := 30, ground := Go.Ground.phase }, { on := 31, ground := Go.Ground.phase }, { on := 32, ground := Go.Ground.phase }, { on := 33, ground := Go.Ground.phase }], guard := none }) rfl rfl (by kernel_rfl) (by kernel_rfl) (by kernel_rfl) (fun _ _ _ h => h) hS3 (by rfl) (fun w' hs => by rfl) ?_
  simp only [Act.put, List.setIfInBounds_toArray, List.set_cons_zero, List.set_cons_succ]
  refine rg_done (by kernel_rfl) ?_
  obtain ⟨w12, hW12⟩ : ∃ wz, wr3 = wz := ⟨_, rfl⟩
  rw [hW12] at hS3 ⊢
  have hB12 : Ext w11 w12 := hS3
  clear hW12
  have hz12 := hB12.size
  have l0_12 : w.heap.size < w12.heap.size := Nat.lt_of_lt_of_le l0_11 hz12
  have c0_0_12 : w12.cell? ⟨w.heap.size, 0, none⟩ = some (.bool an) := hB12.keep l0_11 c0_0_11
  have c0_1_12 : w12.cell? ⟨w.heap.size, 1, none⟩ = some (.int .i64 av) := hB12.keep l0_11 c0_1_11
  have l1_12 : w2.heap.size < w12.heap.size := Nat.lt_of_lt_of_le l1_11 hz12
  have c1_0_12 : w12.cell? ⟨w2.heap.size, 0, none⟩ = some (.bool r3) := hB12.keep l1_11 c1_0_11
  have c1_1_12 : w12.cell? ⟨w2.heap.size, 1, none⟩ = some (.int .i64 s3) := hB12.keep l1_11 c1_1_11
  have l2_12 : w3.heap.size < w12.heap.size := Nat.lt_of_lt_of_le l2_11 hz12
  have c2_0_12 : w12.cell? ⟨w3.heap.size, 0, none⟩ = some (.bool r3) := hB12.keep l2_11 c2_0_11
  have c2_1_12 : w12.cell? ⟨w3.heap.size, 1, none⟩ = some (.int .i64 s3) := hB12.keep l2_11 c2_1_11
  have l3_12 : w10.heap.size < w12.heap.size := Nat.lt_of_lt_of_le l3_11 hz12
  have c3_0_12 : w12.cell? ⟨w10.heap.size, 0, none⟩ = some (.bool true) := hB12.keep l3_11 c3_0_11
  have c3_1_12 : w12.cell? ⟨w10.heap.size, 1, none⟩ = some (.int .i64 0) := hB12.keep l3_11 c3_1_11
  clear c0_0_11 c0_1_11 l0_11 c1_0_11 c1_1_11 l1_11 c2_0_11 c2_1_11 l2_11 c3_0_11 c3_1_11 l3_11
  clear hS hS1 hBr1 hS2 hBr2 hS3 hBr3
  go_wp2_with fail
  go_ret
  refine ⟨rfl, ?_⟩
  repeat (first | exact Ext.refl _ | refine Ext.set ?_ (by dsimp only; omega) _ | refine Ext.alloc ?_ _ | refine Ext.drew ?_ | refine (Ext.trans ?_ (by assumption)))
set_option maxHeartbeats 8000000 in
theorem one_okk (av n : Int) (w : World) (G : Glob w) (ho : oddB false av = false) :
    Calls Tryd.prog 10 #[.agg #[.bool false, .int .i64 av], .int .i64 n] w fun e w' => e = .returned (.bool true) ∧ Ext w w' := by
  obtain ⟨_, a1, a2⟩ := oddB_false ho
  obtain ⟨⟨⟨r0, s0⟩, t0⟩, er0⟩ : ∃ r, one false av (fitS (floorV av)) = r := ⟨_, rfl⟩
  have E0 := Lib.hid er0; clear er0
  obtain ⟨⟨⟨r1, s1⟩, t1⟩, er1⟩ : ∃ r, ceilS false av = r := ⟨_, rfl⟩
  have E1 := Lib.hid er1; clear er1
  obtain ⟨⟨⟨r2, s2⟩, t2⟩, er2⟩ : ∃ r, one false av (fitS (floorV (av + 500000))) = r := ⟨_, rfl⟩
  have E2 := Lib.hid er2; clear er2
  obtain ⟨⟨⟨r3, s3⟩, t3⟩, er3⟩ : ∃ r, ofS n = r := ⟨_, rfl⟩
  have E3 := Lib.hid er3; clear er3
  have EN : Hid (negS false av = (false, -av)) := by refine Lib.hid ?_; rw [negS, if_neg (by rw [ho]; decide)]
  have HO := Lib.hid ho; clear ho
  obtain ⟨tx, etx⟩ : ∃ t, bs (textS false av) = t := ⟨_, rfl⟩
  have ET := Lib.hid etx; clear etx
  go_enter Tryd.func10, Tryd.ntmps10
  go_wp2_with fail
  refine (awake3 _ (G.alloc _)).mono ?_
  rintro e w1 ⟨rfl, hB1⟩
  have hz1 := hB1.size
  simp at hz1
  have l0_1 : w.heap.size < w1.heap.size := by omega
  have c0_0_1 : w1.cell? ⟨w.heap.size, 0, none⟩ = some (.bool false) := hB1.keep (by first | (simp; done) | (simp; omega)) (by simp [go_sem])
  have c0_1_1 : w1.cell? ⟨w.heap.size, 1, none⟩ = some (.int .i64 av) := hB1.keep (by first | (simp; done) | (simp; omega)) (by simp [go_sem])
  go_wp2_with fail
  refine (floor_any false av _).mono ?_
  rw [E0.out]
  rintro e w2 ⟨rfl, hB2⟩
  have hz2 := hB2.size
  have l0_2 : w.heap.size < w2.heap.size := by omega
  have c0_0_2 : w2.cell? ⟨w.heap.size, 0, none⟩ = some (.bool false) := hB2.keep (by omega) c0_0_1
  have c0_1_2 : w2.cell? ⟨w.heap.size, 1, none⟩ = some (.int .i64 av) := hB2.keep (by omega) c0_1_1
  clear c0_0_1 c0_1_1 l0_1
  go_wp2_with fail
  refine (rfloor1_any false av _).mono ?_
  rw [E0.out]
  rintro e w3 ⟨rfl, hB3⟩
  have hz3 := hB3.size
  simp at hz3
  have l0_3 : w.heap.size < w3.heap.size := by omega
  have l1_3 : w2.heap.size < w3.heap.size := by omega
  have c0_0_3 : w3.cell? ⟨w.heap.size, 0, none⟩ = some (.bool false) := hB3.keep (by first | (simp; done) | (simp; omega)) (by simp [go_sem, l0_2, c0_0_2])
  have c0_1_3 : w3.cell? ⟨w.heap.size, 1, none⟩ = some (.int .i64 av) := hB3.keep (by first | (simp; done) | (simp; omega)) (by simp [go_sem, l0_2, c0_1_2])
  have c1_0_3 : w3.cell? ⟨w2.heap.size, 0, none⟩ = some (.bool r0) := hB3.keep (by first | (simp; done) | (simp; omega)) (by simp [go_sem, l0_2])
  have f1_0_3 : w3.frozen? ⟨w2.heap.size, 0, none⟩ = false := hB3.free (by first | (simp; done) | (simp; omega)) (by simp [go_sem, l0_2])
  have c1_1_3 : w3.cell? ⟨w2.heap.size, 1, none⟩ = some (.int .i64 s0) := hB3.keep (by first | (simp; done) | (simp; omega)) (by simp [go_sem, l0_2])
  have f1_1_3 : w3.frozen? ⟨w2.heap.size, 1, none⟩ = false := hB3.free (by first | (simp; done) | (simp; omega)) (by simp [go_sem, l0_2])
  clear c0_0_2 c0_1_2 l0_2
  have ne1_0 : ¬ w2.heap.size = w.heap.size := by omega
  have ne0_1 : ¬ w.heap.size = w2.heap.size := by omega
  go_wp2_with fail
  refine (ceil_any false av _).mono ?_
  rw [E1.out]
  rintro e w4 ⟨rfl, hB4⟩
  have hz4 := hB4.size
  simp at hz4
  have l0_4 : w.heap.size < w4.heap.size := by omega
  have l1_4 : w2.heap.size < w4.heap.size := by omega
  have l2_4 : w3.heap.size < w4.heap.size := by omega
  have c0_0_4 : w4.cell? ⟨w.heap.size, 0, none⟩ = some (.bool false) := hB4.keep (by first | (simp; done) | (simp; omega)) (by simp [go_sem, l0_3, l1_3, c0_0_3])
  have c0_1_4 : w4.cell? ⟨w.heap.size, 1, none⟩ = some (.int .i64 av) := hB4.keep (by first | (simp; done) | (simp; omega)) (by simp [go_sem, l0_3, l1_3, c0_1_3])
  have c1_0_4 : w4.cell? ⟨w2.heap.size, 0, none⟩ = some (.bool r0) := hB4.keep (by first | (simp; done) | (simp; omega)) (by simp [go_sem, l0_3, l1_3, c1_0_3])
  have f1_0_4 : w4.frozen? ⟨w2.heap.size, 0, none⟩ = false := hB4.free (by first | (simp; done) | (simp; omega)) (by simp [go_sem, l0_3, l1_3, f1_0_3])
  have c1_1_4 : w4.cell? ⟨w2.heap.size, 1, none⟩ = some (.int .i64 s0) := hB4.keep (by first | (simp; done) | (simp; omega)) (by simp [go_sem, l0_3, l1_3, c1_1_3])
  have f1_1_4 : w4.frozen? ⟨w2.heap.size, 1, none⟩ = false := hB4.free (by first | (simp; done) | (simp; omega)) (by simp [go_sem, l0_3, l1_3, f1_1_3])
  have c2_0_4 : w4.cell? ⟨w3.heap.size, 0, none⟩ = some (.bool r0) := hB4.keep (by first | (simp; done) | (simp; omega)) (by simp [go_sem, l0_3, l1_3])
  have f2_0_4 : w4.frozen? ⟨w3.heap.size, 0, none⟩ = false := hB4.free (by first | (simp; done) | (simp; omega)) (by simp [go_sem, l0_3, l1_3])
  have c2_1_4 : w4.cell? ⟨w3.heap.size, 1, none⟩ = some (.int .i64 s0) := hB4.keep (by first | (simp; done) | (simp; omega)) (by simp [go_sem, l0_3, l1_3])
  have f2_1_4 : w4.frozen? ⟨w3.heap.size, 1, none⟩ = false := hB4.free (by first | (simp; done) | (simp; omega)) (by simp [go_sem, l0_3, l1_3])
  clear c0_0_3 c0_1_3 c1_0_3 c1_1_3 l0_3 l1_3 f1_0_3 f1_1_3
  have ne1_2 : ¬ w2.heap.size = w3.heap.size := by omega
  have ne2_1 : ¬ w3.heap.size = w2.heap.size := by omega
  have ne2_0 : ¬ w3.heap.size = w.heap.size := by omega
  have ne0_2 : ¬ w.heap.size = w3.heap.size := by omega
  go_wp2_with fail
  refine (rceil_any false av _).mono ?_
  rw [E1.out]
  rintro e w5 ⟨rfl, hB5⟩
  have hz5 := hB5.size
  simp at hz5
  have l0_5 : w.heap.size < w5.heap.size := by omega
  have l1_5 : w2.heap.size < w5.heap.size := by omega
  have l2_5 : w3.heap.size < w5.heap.size := by omega
  have c0_0_5 : w5.cell? ⟨w.heap.size, 0, none⟩ = some (.bool false) := hB5.keep (by first | (simp; done) | (simp; omega)) (by simp [go_sem, l0_4, l1_4, l2_4, c1_0_4, c1_1_4, c0_0_4])
  have c0_1_5 : w5.cell? ⟨w.heap.size, 1, none⟩ = some (.int .i64 av) := hB5.keep (by first | (simp; done) | (simp; omega)) (by simp [go_sem, l0_4, l1_4, l2_4, c1_0_4, c1_1_4, c0_1_4])
  have c1_0_5 : w5.cell? ⟨w2.heap.size, 0, none⟩ = some (.bool r1) := hB5.keep (by first | (simp; done) | (simp; omega)) (by simp [go_sem, l0_4, l1_4, l2_4, c1_0_4, c1_1_4])
  have f1_0_5 : w5.frozen? ⟨w2.heap.size, 0, none⟩ = false := hB5.free (by first | (simp; done) | (simp; omega)) (by simp [go_sem, l0_4, l1_4, l2_4, f1_0_4])
  have c1_1_5 : w5.cell? ⟨w2.heap.size, 1, none⟩ = some (.int .i64 s1) := hB5.keep (by first | (simp; done) | (simp; omega)) (by simp [go_sem, l0_4, l1_4, l2_4, c1_0_4, c1_1_4])
  have f1_1_5 : w5.frozen? ⟨w2.heap.size, 1, none⟩ = false := hB5.free (by first | (simp; done) | (simp; omega)) (by simp [go_sem, l0_4, l1_4, l2_4, f1_1_4])
  have c2_0_5 : w5.cell? ⟨w3.heap.size, 0, none⟩ = some (.bool r0) := hB5.keep (by first | (simp; done) | (simp; omega)) (by simp [go_sem, l0_4, l1_4, l2_4, c1_0_4, c1_1_4, c2_0_4])
  have f2_0_5 : w5.frozen? ⟨w3.heap.size, 0, none⟩ = false := hB5.free (by first | (simp; done) | (simp; omega)) (by simp [go_sem, l0_4, l1_4, l2_4, f2_0_4])
  have c2_1_5 : w5.cell? ⟨w3.heap.size, 1, none⟩ = some (.int .i64 s0) := hB5.keep (by first | (simp; done) | (simp; omega)) (by simp [go_sem, l0_4, l1_4, l2_4, c1_0_4, c1_1_4, c2_1_4])
  have f2_1_5 : w5.frozen? ⟨w3.heap.size, 1, none⟩ = false := hB5.free (by first | (simp; done) | (simp; omega)) (by simp [go_sem, l0_4, l1_4, l2_4, f2_1_4])
  clear c0_0_4 c0_1_4 c1_0_4 c1_1_4 c2_0_4 c2_1_4 l0_4 l1_4 l2_4 f1_0_4 f1_1_4 f2_0_4 f2_1_4
  go_wp2_with fail
  refine (round_any false av _).mono ?_
  rw [E2.out]
  rintro e w6 ⟨rfl, hB6⟩
  have hz6 := hB6.size
  simp at hz6
  have l0_6 : w.heap.size < w6.heap.size := by omega
  have l1_6 : w2.heap.size < w6.heap.size := by omega
  have l2_6 : w3.heap.size < w6.heap.size := by omega
  have c0_0_6 : w6.cell? ⟨w.heap.size, 0, none⟩ = some (.bool false) := hB6.keep (by first | (simp; done) | (simp; omega)) (by simp [go_sem, l0_5, l1_5, l2_5, c2_0_5, c2_1_5, c0_0_5])
  have c0_1_6 : w6.cell? ⟨w.heap.size, 1, none⟩ = some (.int .i64 av) := hB6.keep (by first | (simp; done) | (simp; omega)) (by simp [go_sem, l0_5, l1_5, l2_5, c2_0_5, c2_1_5, c0_1_5])
  have c1_0_6 : w6.cell? ⟨w2.heap.size, 0, none⟩ = some (.bool r1) := hB6.keep (by first | (simp; done) | (simp; omega)) (by simp [go_sem, l0_5, l1_5, l2_5, c2_0_5, c2_1_5, c1_0_5])
  have f1_0_6 : w6.frozen? ⟨w2.heap.size, 0, none⟩ = false := hB6.free (by first | (simp; done) | (simp; omega)) (by simp [go_sem, l0_5, l1_5, l2_5, f1_0_5])
  have c1_1_6 : w6.cell? ⟨w2.heap.size, 1, none⟩ = some (.int .i64 s1) := hB6.keep (by first | (simp; done) | (simp; omega)) (by simp [go_sem, l0_5, l1_5, l2_5, c2_0_5, c2_1_5, c1_1_5])
  have f1_1_6 : w6.frozen? ⟨w2.heap.size, 1, none⟩ = false := hB6.free (by first | (simp; done) | (simp; omega)) (by simp [go_sem, l0_5, l1_5, l2_5, f1_1_5])
  have c2_0_6 : w6.cell? ⟨w3.heap.size, 0, none⟩ = some (.bool r1) := hB6.keep (by first | (simp; done) | (simp; omega)) (by simp [go_sem, l0_5, l1_5, l2_5, c2_0_5, c2_1_5])
  have f2_0_6 : w6.frozen? ⟨w3.heap.size, 0, none⟩ = false := hB6.free (by first | (simp; done) | (simp; omega)) (by simp [go_sem, l0_5, l1_5, l2_5, f2_0_5])
  have c2_1_6 : w6.cell? ⟨w3.heap.size, 1, none⟩ = some (.int .i64 s1) := hB6.keep (by first | (simp; done) | (simp; omega)) (by simp [go_sem, l0_5, l1_5, l2_5, c2_0_5, c2_1_5])
  have f2_1_6 : w6.frozen? ⟨w3.heap.size, 1, none⟩ = false := hB6.free (by first | (simp; done) | (simp; omega)) (by simp [go_sem, l0_5, l1_5, l2_5, f2_1_5])
  clear c0_0_5 c0_1_5 c1_0_5 c1_1_5 c2_0_5 c2_1_5 l0_5 l1_5 l2_5 f1_0_5 f1_1_5 f2_0_5 f2_1_5
  go_wp2_with fail
  refine (rround1_any false av _).mono ?_
  rw [E2.out]
  rintro e w7 ⟨rfl, hB7⟩
  have hz7 := hB7.size
  simp at hz7
  have l0_7 : w.heap.size < w7.heap.size := by omega
  have l1_7 : w2.heap.size < w7.heap.size := by omega
  have l2_7 : w3.heap.size < w7.heap.size := by omega
  have c0_0_7 : w7.cell? ⟨w.heap.size, 0, none⟩ = some (.bool false) := hB7.keep (by first | (simp; done) | (simp; omega)) (by simp [go_sem, l0_6, l1_6, l2_6, c1_0_6, c1_1_6, c0_0_6])
  have c0_1_7 : w7.cell? ⟨w.heap.size, 1, none⟩ = some (.int .i64 av) := hB7.keep (by first | (simp; done) | (simp; omega)) (by simp [go_sem, l0_6, l1_6, l2_6, c1_0_6, c1_1_6, c0_1_6])
  have c1_0_7 : w7.cell? ⟨w2.heap.size, 0, none⟩ = some (.bool r2) := hB7.keep (by first | (simp; done) | (simp; omega)) (by simp [go_sem, l0_6, l1_6, l2_6, c1_0_6, c1_1_6])
  have f1_0_7 : w7.frozen? ⟨w2.heap.size, 0, none⟩ = false := hB7.free (by first | (simp; done) | (simp; omega)) (by simp [go_sem, l0_6, l1_6, l2_6, f1_0_6])
  have c1_1_7 : w7.cell? ⟨w2.heap.size, 1, none⟩ = some (.int .i64 s2) := hB7.keep (by first | (simp; done) | (simp; omega)) (by simp [go_sem, l0_6, l1_6, l2_6, c1_0_6, c1_1_6])
  have f1_1_7 : w7.frozen? ⟨w2.heap.size, 1, none⟩ = false := hB7.free (by first | (simp; done) | (simp; omega)) (by simp [go_sem, l0_6, l1_6, l2_6, f1_1_6])
  have c2_0_7 : w7.cell? ⟨w3.heap.size, 0, none⟩ = some (.bool r1) := hB7.keep (by first | (simp; done) | (simp; omega)) (by simp [go_sem, l0_6, l1_6, l2_6, c1_0_6, c1_1_6, c2_0_6])
  have f2_0_7 : w7.frozen? ⟨w3.heap.size, 0, none⟩ = false := hB7.free (by first | (simp; done) | (simp; omega)) (by simp [go_sem, l0_6, l1_6, l2_6, f2_0_6])
  have c2_1_7 : w7.cell? ⟨w3.heap.size, 1, none⟩ = some (.int .i64 s1) := hB7.keep (by first | (simp; done) | (simp; omega)) (by simp [go_sem, l0_6, l1_6, l2_6, c1_0_6, c1_1_6, c2_1_6])
  have f2_1_7 : w7.frozen? ⟨w3.heap.size, 1, none⟩ = false := hB7.free (by first | (simp; done) | (simp; omega)) (by simp [go_sem, l0_6, l1_6, l2_6, f2_1_6])
  clear c0_0_6 c0_1_6 c1_0_6 c1_1_6 c2_0_6 c2_1_6 l0_6 l1_6 l2_6 f1_0_6 f1_1_6 f2_0_6 f2_1_6
  go_wp2_with fail
  refine (of_any n _).mono ?_
  rw [E3.out]
  rintro e w8 ⟨rfl, hB8⟩
  have hz8 := hB8.size
  simp at hz8
  have l0_8 : w.heap.size < w8.heap.size := by omega
  have l1_8 : w2.heap.size < w8.heap.size := by omega
  have l2_8 : w3.heap.size < w8.heap.size := by omega
  have c0_0_8 : w8.cell? ⟨w.heap.size, 0, none⟩ = some (.bool false) := hB8.keep (by first | (simp; done) | (simp; omega)) (by simp [go_sem, l0_7, l1_7, l2_7, c2_0_7, c2_1_7, c0_0_7])
  have c0_1_8 : w8.cell? ⟨w.heap.size, 1, none⟩ = some (.int .i64 av) := hB8.keep (by first | (simp; done) | (simp; omega)) (by simp [go_sem, l0_7, l1_7, l2_7, c2_0_7, c2_1_7, c0_1_7])
  have c1_0_8 : w8.cell? ⟨w2.heap.size, 0, none⟩ = some (.bool r2) := hB8.keep (by first | (simp; done) | (simp; omega)) (by simp [go_sem, l0_7, l1_7, l2_7, c2_0_7, c2_1_7, c1_0_7])
  have f1_0_8 : w8.frozen? ⟨w2.heap.size, 0, none⟩ = false := hB8.free (by first | (simp; done) | (simp; omega)) (by simp [go_sem, l0_7, l1_7, l2_7, f1_0_7])
  have c1_1_8 : w8.cell? ⟨w2.heap.size, 1, none⟩ = some (.int .i64 s2) := hB8.keep (by first | (simp; done) | (simp; omega)) (by simp [go_sem, l0_7, l1_7, l2_7, c2_0_7, c2_1_7, c1_1_7])
  have f1_1_8 : w8.frozen? ⟨w2.heap.size, 1, none⟩ = false := hB8.free (by first | (simp; done) | (simp; omega)) (by simp [go_sem, l0_7, l1_7, l2_7, f1_1_7])
  have c2_0_8 : w8.cell? ⟨w3.heap.size, 0, none⟩ = some (.bool r2) := hB8.keep (by first | (simp; done) | (simp; omega)) (by simp [go_sem, l0_7, l1_7, l2_7, c2_0_7, c2_1_7])
  have f2_0_8 : w8.frozen? ⟨w3.heap.size, 0, none⟩ = false := hB8.free (by first | (simp; done) | (simp; omega)) (by simp [go_sem, l0_7, l1_7, l2_7, f2_0_7])
  have c2_1_8 : w8.cell? ⟨w3.heap.size, 1, none⟩ = some (.int .i64 s2) := hB8.keep (by first | (simp; done) | (simp; omega)) (by simp [go_sem, l0_7, l1_7, l2_7, c2_0_7, c2_1_7])
  have f2_1_8 : w8.frozen? ⟨w3.heap.size, 1, none⟩ = false := hB8.free (by first | (simp; done) | (simp; omega)) (by simp [go_sem, l0_7, l1_7, l2_7, f2_1_7])
  clear c0_0_7 c0_1_7 c1_0_7 c1_1_7 c2_0_7 c2_1_7 l0_7 l1_7 l2_7 f1_0_7 f1_1_7 f2_0_7 f2_1_7
  go_wp2_with fail
  refine (rof_any n _).mono ?_
  rw [E3.out]
  rintro e w9 ⟨rfl, hB9⟩
  have hz9 := hB9.size
  simp at hz9
  have l0_9 : w.heap.size < w9.heap.size := by omega
  have l1_9 : w2.heap.size < w9.heap.size := by omega
  have l2_9 : w3.heap.size < w9.heap.size := by omega
  have c0_0_9 : w9.cell? ⟨w.heap.size, 0, none⟩ = some (.bool false) := hB9.keep (by first | (simp; done) | (simp; omega)) (by simp [go_sem, l0_8, l1_8, l2_8, c1_0_8, c1_1_8, c0_0_8])
  have c0_1_9 : w9.cell? ⟨w.heap.size, 1, none⟩ = some (.int .i64 av) := hB9.keep (by first | (simp; done) | (simp; omega)) (by simp [go_sem, l0_8, l1_8, l2_8, c1_0_8, c1_1_8, c0_1_8])
  have c1_0_9 : w9.cell? ⟨w2.heap.size, 0, none⟩ = some (.bool r3) := hB9.keep (by first | (simp; done) | (simp; omega)) (by simp [go_sem, l0_8, l1_8, l2_8, c1_0_8, c1_1_8])
  have f1_0_9 : w9.frozen? ⟨w2.heap.size, 0, none⟩ = false := hB9.free (by first | (simp; done) | (simp; omega)) (by simp [go_sem, l0_8, l1_8, l2_8, f1_0_8])
  have c1_1_9 : w9.cell? ⟨w2.heap.size, 1, none⟩ = some (.int .i64 s3) := hB9.keep (by first | (simp; done) | (simp; omega)) (by simp [go_sem, l0_8, l1_8, l2_8, c1_0_8, c1_1_8])
  have f1_1_9 : w9.frozen? ⟨w2.heap.size, 1, none⟩ = false := hB9.free (by first | (simp; done) | (simp; omega)) (by simp [go_sem, l0_8, l1_8, l2_8, f1_1_8])
  have c2_0_9 : w9.cell? ⟨w3.heap.size, 0, none⟩ = some (.bool r2) := hB9.keep (by first | (simp; done) | (simp; omega)) (by simp [go_sem, l0_8, l1_8, l2_8, c1_0_8, c1_1_8, c2_0_8])
  have f2_0_9 : w9.frozen? ⟨w3.heap.size, 0, none⟩ = false := hB9.free (by first | (simp; done) | (simp; omega)) (by simp [go_sem, l0_8, l1_8, l2_8, f2_0_8])
  have c2_1_9 : w9.cell? ⟨w3.heap.size, 1, none⟩ = some (.int .i64 s2) := hB9.keep (by first | (simp; done) | (simp; omega)) (by simp [go_sem, l0_8, l1_8, l2_8, c1_0_8, c1_1_8, c2_1_8])
  have f2_1_9 : w9.frozen? ⟨w3.heap.size, 1, none⟩ = false := hB9.free (by first | (simp; done) | (simp; omega)) (by simp [go_sem, l0_8, l1_8, l2_8, f2_1_8])
  clear c0_0_8 c0_1_8 c1_0_8 c1_1_8 c2_0_8 c2_1_8 l0_8 l1_8 l2_8 f1_0_8 f1_1_8 f2_0_8 f2_1_8
  go_wp2_with fail
  refine (neg_any false av _).mono ?_
  rw [EN.out]
  rintro e w10 ⟨rfl, hB10⟩
  have hz10 := hB10.size
  simp at hz10
  have l0_10 : w.heap.size < w10.heap.size := by omega
  have l1_10 : w2.heap.size < w10.heap.size := by omega
  have l2_10 : w3.heap.size < w10.heap.size := by omega
  have c0_0_10 : w10.cell? ⟨w.heap.size, 0, none⟩ = some (.bool false) := hB10.keep (by first | (simp; done) | (simp; omega)) (by simp [go_sem, l0_9, l1_9, l2_9, c2_0_9, c2_1_9, c0_0_9])
  have c0_1_10 : w10.cell? ⟨w.heap.size, 1, none⟩ = some (.int .i64 av) := hB10.keep (by first | (simp; done) | (simp; omega)) (by simp [go_sem, l0_9, l1_9, l2_9, c2_0_9, c2_1_9, c0_1_9])
  have c1_0_10 : w10.cell? ⟨w2.heap.size, 0, none⟩ = some (.bool r3) := hB10.keep (by first | (simp; done) | (simp; omega)) (by simp [go_sem, l0_9, l1_9, l2_9, c2_0_9, c2_1_9, c1_0_9])
  have f1_0_10 : w10.frozen? ⟨w2.heap.size, 0, none⟩ = false := hB10.free (by first | (simp; done) | (simp; omega)) (by simp [go_sem, l0_9, l1_9, l2_9, f1_0_9])
  have c1_1_10 : w10.cell? ⟨w2.heap.size, 1, none⟩ = some (.int .i64 s3) := hB10.keep (by first | (simp; done) | (simp; omega)) (by simp [go_sem, l0_9, l1_9, l2_9, c2_0_9, c2_1_9, c1_1_9])
  have f1_1_10 : w10.frozen? ⟨w2.heap.size, 1, none⟩ = false := hB10.free (by first | (simp; done) | (simp; omega)) (by simp [go_sem, l0_9, l1_9, l2_9, f1_1_9])
  have c2_0_10 : w10.cell? ⟨w3.heap.size, 0, none⟩ = some (.bool r3) := hB10.keep (by first | (simp; done) | (simp; omega)) (by simp [go_sem, l0_9, l1_9, l2_9, c2_0_9, c2_1_9])
  have f2_0_10 : w10.frozen? ⟨w3.heap.size, 0, none⟩ = false := hB10.free (by first | (simp; done) | (simp; omega)) (by simp [go_sem, l0_9, l1_9, l2_9, f2_0_9])
  have c2_1_10 : w10.cell? ⟨w3.heap.size, 1, none⟩ = some (.int .i64 s3) := hB10.keep (by first | (simp; done) | (simp; omega)) (by simp [go_sem, l0_9, l1_9, l2_9, c2_0_9, c2_1_9])
  have f2_1_10 : w10.frozen? ⟨w3.heap.size, 1, none⟩ = false := hB10.free (by first | (simp; done) | (simp; omega)) (by simp [go_sem, l0_9, l1_9, l2_9, f2_1_9])
  clear c0_0_9 c0_1_9 c1_0_9 c1_1_9 c2_0_9 c2_1_9 l0_9 l1_9 l2_9 f1_0_9 f1_1_9 f2_0_9 f2_1_9
  go_wp2_with fail
  obtain ⟨w11, hW11⟩ : ∃ wz, (w10.alloc (.cells #[.bool false, .int .i64 (-av)] 38)) = wz := ⟨_, rfl⟩
  rw [hW11]
  have hB11 : Ext (w10.alloc (.cells #[.bool false, .int .i64 (-av)] 38)) w11 := by rw [hW11]; exact Ext.refl _
  clear hW11
  have hz11 := hB11.size
  simp at hz11
  have l0_11 : w.heap.size < w11.heap.size := by omega
  have l1_11 : w2.heap.size < w11.heap.size := by omega
  have l2_11 : w3.heap.size < w11.heap.size := by omega
  have l3_11 : w10.heap.size < w11.heap.size := by omega
  have c0_0_11 : w11.cell? ⟨w.heap.size, 0, none⟩ = some (.bool false) := hB11.keep (by first | (simp; done) | (simp; omega)) (by simp [go_sem, l0_10, l1_10, l2_10, c0_0_10])
  have c0_1_11 : w11.cell? ⟨w.heap.size, 1, none⟩ = some (.int .i64 av) := hB11.keep (by first | (simp; done) | (simp; omega)) (by simp [go_sem, l0_10, l1_10, l2_10, c0_1_10])
  have c1_0_11 : w11.cell? ⟨w2.heap.size, 0, none⟩ = some (.bool r3) := hB11.keep (by first | (simp; done) | (simp; omega)) (by simp [go_sem, l0_10, l1_10, l2_10, c1_0_10])
  have f1_0_11 : w11.frozen? ⟨w2.heap.size, 0, none⟩ = false := hB11.free (by first | (simp; done) | (simp; omega)) (by simp [go_sem, l0_10, l1_10, l2_10, f1_0_10])
  have c1_1_11 : w11.cell? ⟨w2.heap.size, 1, none⟩ = some (.int .i64 s3) := hB11.keep (by first | (simp; done) | (simp; omega)) (by simp [go_sem, l0_10, l1_10, l2_10, c1_1_10])
  have f1_1_11 : w11.frozen? ⟨w2.heap.size, 1, none⟩ = false := hB11.free (by first | (simp; done) | (simp; omega)) (by simp [go_sem, l0_10, l1_10, l2_10, f1_1_10])
  have c2_0_11 : w11.cell? ⟨w3.heap.size, 0, none⟩ = some (.bool r3) := hB11.keep (by first | (simp; done) | (simp; omega)) (by simp [go_sem, l0_10, l1_10, l2_10, c2_0_10])
  have f2_0_11 : w11.frozen? ⟨w3.heap.size, 0, none⟩ = false := hB11.free (by first | (simp; done) | (simp; omega)) (by simp [go_sem, l0_10, l1_10, l2_10, f2_0_10])
  have c2_1_11 : w11.cell? ⟨w3.heap.size, 1, none⟩ = some (.int .i64 s3) := hB11.keep (by first | (simp; done) | (simp; omega)) (by simp [go_sem, l0_10, l1_10, l2_10, c2_1_10])
  have f2_1_11 : w11.frozen? ⟨w3.heap.size, 1, none⟩ = false := hB11.free (by first | (simp; done) | (simp; omega)) (by simp [go_sem, l0_10, l1_10, l2_10, f2_1_10])
  have c3_0_11 : w11.cell? ⟨w10.heap.size, 0, none⟩ = some (.bool false) := hB11.keep (by first | (simp; done) | (simp; omega)) (by simp [go_sem, l0_10, l1_10, l2_10])
  have c3_1_11 : w11.cell? ⟨w10.heap.size, 1, none⟩ = some (.int .i64 (-av)) := hB11.keep (by first | (simp; done) | (simp; omega)) (by simp [go_sem, l0_10, l1_10, l2_10])
  clear c0_0_10 c0_1_10 c1_0_10 c1_1_10 c2_0_10 c2_1_10 l0_10 l1_10 l2_10 f1_0_10 f1_1_10 f2_0_10 f2_1_10
  have ne1_3 : ¬ w2.heap.size = w10.heap.size := by omega
  have ne3_1 : ¬ w10.heap.size = w2.heap.size := by omega
  have ne2_3 : ¬ w3.heap.size = w10.heap.size := by omega
  have ne3_2 : ¬ w10.heap.size = w3.heap.size := by omega
  have hX : Ext w w11 := by
    repeat (first | exact Ext.refl _ | refine Ext.set ?_ (by dsimp only; omega) _ | refine Ext.alloc ?_ _ | refine Ext.drew ?_ | refine (Ext.trans ?_ (by assumption)))
  have GR := (G.ext hX).drew
  have ht : Hid (tx.size ≤ 9223372036854775807) := by
    refine Lib.hid ?_; rw [← ET.out, bs_size]; have := textS_len false av; omega
  clear hX ht
  go_wp2_with fail
  refine rg_begin (S := Sx w11) (by kernel_rfl) (Sx.begin _) ?_
  have hS : Sx w11 (World.drew w11) := Sx.begin _
  refine rg_take 0 (some 78) (.agg #[.bool r3, .int .i64 s3]) (oi := { dst := some 78, op := Go.Op.load 38 (Go.Operand.tmp 5), type := 38, pos := "law.go:71", after := #[], guard := none }) rfl rfl (by kernel_rfl) (by kernel_rfl) (by kernel_rfl) (fun _ _ _ h => h) hS (by rfl) (fun w' hs => by (have h0 := hs.cell l1_11 c1_0_11; have h1 := hs.cell l1_11 c1_1_11; go_simp)) ?_
  simp only [Act.put, List.setIfInBounds_toArray, List.set_cons_zero, List.set_cons_succ]
  refine rg_take 1 (some 79) (.agg #[.bool r3, .int .i64 s3]) (oi := { dst := some 79, op := Go.Op.load 38 (Go.Operand.tmp 7), type := 38, pos := "law.go:71", after := #[], guard := none }) rfl rfl (by kernel_rfl) (by kernel_rfl) (by kernel_rfl) (fun _ _ _ h => h) hS (by rfl) (fun w' hs => by (have h0 := hs.cell l2_11 c2_0_11; have h1 := hs.cell l2_11 c2_1_11; go_simp)) ?_
  simp only [Act.put, List.setIfInBounds_toArray, List.set_cons_zero, List.set_cons_succ]
  refine rg_take 2 (some 80) (.bool true) (oi := { dst := some 80, op := Go.Op.binOp Go.BinOp.eql 38 (Go.Operand.tmp 78) (Go.Operand.tmp 79) 38, type := 4, pos := "law.go:71", after := #[{ on := 0, ground := Go.Ground.data }, { on := 1, ground := Go.Ground.data }], guard := none }) rfl rfl (by kernel_rfl) (by kernel_rfl) (by kernel_rfl) (fun _ _ _ h => h) hS (by rfl) (fun w' hs => by first | rfl | go_simp) ?_
  simp only [Act.put, List.setIfInBounds_toArray, List.set_cons_zero, List.set_cons_succ]
  refine rg_take 3 (some 81) (.bool true) (oi := { dst := some 81, op := Go.Op.move (Go.Operand.tmp 80), type := 4, pos := "law.go:71", after := #[{ on := 2, ground := Go.Ground.data }], guard := none }) rfl rfl (by kernel_rfl) (by kernel_rfl) (by kernel_rfl) (fun _ _ _ h => h) hS (by rfl) (fun w' hs => by rfl) ?_
  simp only [Act.put, List.setIfInBounds_toArray, List.set_cons_zero, List.set_cons_succ]
  refine rg_take 4 (some 82) (.int .i64 t3) (oi := { dst := some 82, op := Go.Op.move (Go.Operand.tmp 6), type := 34, pos := "law.go:71", after := #[{ on := 3, ground := Go.Ground.guard }], guard := some (3, true) }) rfl rfl (by kernel_rfl) (by kernel_rfl) (by kernel_rfl) (fun _ _ _ h => h) hS (by rfl) (fun w' hs => by rfl) ?_
  simp only [Act.put, List.setIfInBounds_toArray, List.set_cons_zero, List.set_cons_succ]
  refine rg_take 5 (some 83) (.int .i64 t3) (oi := { dst := some 83, op := Go.Op.move (Go.Operand.tmp 8), type := 34, pos := "law.go:71", after := #[{ on := 3, ground := Go.Ground.guard }], guard := some (3, true) }) rfl rfl (by kernel_rfl) (by kernel_rfl) (by kernel_rfl) (fun _ _ _ h => h) hS (by rfl) (fun w' hs => by rfl) ?_
  simp only [Act.put, List.setIfInBounds_toArray, List.set_cons_zero, List.set_cons_succ]
  refine rg_take 6 (some 84) (.bool true) (oi := { dst := some 84, op := Go.Op.binOp Go.BinOp.eql 34 (Go.Operand.tmp 82) (Go.Operand.tmp 83) 34, type := 4, pos := "law.go:71", after := #[{ on := 4, ground := Go.Ground.data }, { on := 5, ground := Go.Ground.data }, { on := 3, ground := Go.Ground.guard }], guard := some (3, true) }) rfl rfl (by kernel_rfl) (by kernel_rfl) (by kernel_rfl) (fun _ _ _ h => h) hS (by rfl) (fun w' hs => by first | rfl | go_simp) ?_
  simp only [Act.put, List.setIfInBounds_toArray, List.set_cons_zero, List.set_cons_succ]
  refine rg_take 7 (some 85) (.bool true) (oi := { dst := some 85, op := Go.Op.pick (Go.Operand.tmp 81) (Go.Operand.tmp 84) (Go.Operand.const (Go.Value.bool false)), type := 4, pos := "law.go:71", after := #[{ on := 3, ground := Go.Ground.data }, { on := 6, ground := Go.Ground.data }], guard := none }) rfl rfl (by kernel_rfl) (by kernel_rfl) (by kernel_rfl) (fun _ _ _ h => h) hS (by rfl) (fun w' hs => by rfl) ?_
  simp only [Act.put, List.setIfInBounds_toArray, List.set_cons_zero, List.set_cons_succ]
  refine rg_take 8 (some 86) (.bool true) (oi := { dst := some 86, op := Go.Op.move (Go.Operand.tmp 85), type := 4, pos := "law.go:71", after := #[{ on := 7, ground := Go.Ground.data }, { on := 3, ground := Go.Ground.chain }], guard := none }) rfl rfl (by kernel_rfl) (by kernel_rfl) (by kernel_rfl) (fun _ _ _ h => h) hS (by rfl) (fun w' hs => by rfl) ?_
  simp only [Act.put, List.setIfInBounds_toArray, List.set_cons_zero, List.set_cons_succ]
  refine rg_take 9 (some 87) (.agg #[.bool false, .int .i64 av]) (oi := { dst := some 87, op := Go.Op.load 38 (Go.Operand.tmp 2), type := 38, pos := "law.go:71", after := #[{ on := 8, ground := Go.Ground.guard }], guard := some (8, true) }) rfl rfl (by kernel_rfl) (by kernel_rfl) (by kernel_rfl) (fun _ _ _ h => h) hS (by rfl) (fun w' hs => by (have h0 := hs.cell l0_11 c0_0_11; have h1 := hs.cell l0_11 c0_1_11; go_simp)) ?_
  simp only [Act.put, List.setIfInBounds_toArray, List.set_cons_zero, List.set_cons_succ]
  refine rg_take 11 (some 89) (.agg #[.bool false, .int .i64 av]) (oi := { dst := some 89, op := Go.Op.load 38 (Go.Operand.tmp 2), type := 38, pos := "law.go:71", after := #[{ on := 8, ground := Go.Ground.guard }], guard := some (8, true) }) rfl rfl (by kernel_rfl) (by kernel_rfl) (by kernel_rfl) (fun _ _ _ h => h) hS (by rfl) (fun w' hs => by (have h0 := hs.cell l0_11 c0_0_11; have h1 := hs.cell l0_11 c0_1_11; go_simp)) ?_
  simp only [Act.put, List.setIfInBounds_toArray, List.set_cons_zero, List.set_cons_succ]
  refine rg_call 10 (some 88) 23 #[.agg #[.bool false, .int .i64 av]] (oi := { dst := some 88, op := Go.Op.call { callee := Go.Callee.value (Go.Operand.func 23), args := #[Go.Operand.tmp 87], argTypes := #[38] }, type := 9, pos := "law.go:71", after := #[{ on := 9, ground := Go.Ground.data }, { on := 8, ground := Go.Ground.chain }, { on := 8, ground := Go.Ground.guard }], guard := some (8, true) }) rfl rfl (by kernel_rfl) (by rfl) (fun w' => by first | rfl | go_simp) (R := fun v w' => v = .string tx ∧ Ext (World.drew w11) w') ?_ ?_
  · refine (text_any false av _ GR).mono ?_
    rw [ET.out]
    rintro e w' ⟨rfl, h⟩
    exact ⟨_, rfl, rfl, h⟩
  rintro _ wr1 ⟨rfl, hBr1⟩
  have hS1 := hS.ext hBr1
  refine ⟨hS1, ?_⟩
  simp only [Act.put, List.setIfInBounds_toArray, List.set_cons_zero, List.set_cons_succ]
  refine rg_call 12 (some 90) 48 #[.agg #[.bool false, .int .i64 av]] (oi := { dst := some 90, op := Go.Op.call { callee := Go.Callee.value (Go.Operand.func 48), args := #[Go.Operand.tmp 89], argTypes := #[38] }, type := 9, pos := "law.go:71", after := #[{ on := 11, ground := Go.Ground.data }, { on := 10, ground := Go.Ground.chain }, { on := 8, ground := Go.Ground.guard }], guard := some (8, true) }) rfl rfl (by kernel_rfl) (by rfl) (fun w' => by first | rfl | go_simp) (R := fun v w' => v = .string tx ∧ Ext wr1 w') ?_ ?_
  · refine (rtext_any false av _).mono ?_
    rw [ET.out]
    rintro e w' ⟨rfl, h⟩
    exact ⟨_, rfl, rfl, h⟩
  rintro _ wr2 ⟨rfl, hBr2⟩
  have hS2 := hS1.ext hBr2
  refine ⟨hS2, ?_⟩
  simp only [Act.put, List.setIfInBounds_toArray, List.set_cons_zero, List.set_cons_succ]
  refine rg_take 13 (some 91) (.bool true) (oi := { dst := some 91, op := Go.Op.binOp Go.BinOp.eql 9 (Go.Operand.tmp 88) (Go.Operand.tmp 90) 9, type := 4, pos := "law.go:71", after := #[{ on := 10, ground := Go.Ground.data }, { on := 12, ground := Go.Ground.data }, { on := 8, ground := Go.Ground.guard }], guard := some (8, true) }) rfl rfl (by kernel_rfl) (by kernel_rfl) (by kernel_rfl) (fun _ _ _ h => h) hS2 (by rfl) (fun w' hs => by first | rfl | go_simp) ?_
  simp only [Act.put, List.setIfInBounds_toArray, List.set_cons_zero, List.set_cons_succ]
  refine rg_take 14 (some 92) (.bool true) (oi := { dst := some 92, op := Go.Op.pick (Go.Operand.tmp 86) (Go.Operand.tmp 91) (Go.Operand.const (Go.Value.bool false)), type := 4, pos := "law.go:71", after := #[{ on := 8, ground := Go.Ground.data }, { on := 13, ground := Go.Ground.data }], guard := none }) rfl rfl (by kernel_rfl) (by kernel_rfl) (by kernel_rfl) (fun _ _ _ h => h) hS2 (by rfl) (fun w' hs => by rfl) ?_
  simp only [Act.put, List.setIfInBounds_toArray, List.set_cons_zero, List.set_cons_succ]
  refine rg_take 15 (some 93) (.bool true) (oi := { dst := some 93, op := Go.Op.move (Go.Operand.tmp 92), type := 4, pos := "law.go:71", after := #[{ on := 14, ground := Go.Ground.data }, { on := 12, ground := Go.Ground.chain }], guard := none }) rfl rfl (by kernel_rfl) (by kernel_rfl) (by kernel_rfl) (fun _ _ _ h => h) hS2 (by rfl) (fun w' hs => by rfl) ?_
  simp only [Act.put, List.setIfInBounds_toArray, List.set_cons_zero, List.set_cons_succ]
  refine rg_take 16 (some 94) (.pointer (some ⟨w10.heap.size, 0, none⟩)) (oi := { dst := some 94, op := Go.Op.fieldAddr 38 (Go.Operand.tmp 9) 0, type := 0, pos := "law.go:71", after := #[{ on := 15, ground := Go.Ground.guard }], guard := some (15, true) }) rfl rfl (by kernel_rfl) (by kernel_rfl) (by kernel_rfl) (fun _ _ _ h => h) hS2 (by rfl) (fun w' hs => by first | rfl | go_simp) ?_
  simp only [Act.put, List.setIfInBounds_toArray, List.set_cons_zero, List.set_cons_succ]
  refine rg_take 17 (some 95) (.bool false) (oi := { dst := some 95, op := Go.Op.load 4 (Go.Operand.tmp 94), type := 4, pos := "law.go:71", after := #[{ on := 16, ground := Go.Ground.data }, { on := 15, ground := Go.Ground.guard }], guard := some (15, true) }) rfl rfl (by kernel_rfl) (by kernel_rfl) (by kernel_rfl) (fun _ _ _ h => h) hS2 (by rfl) (fun w' hs => by (have h0 := hs.cell l3_11 c3_0_11; go_simp)) ?_
  simp only [Act.put, List.setIfInBounds_toArray, List.set_cons_zero, List.set_cons_succ]
  refine rg_take 18 (some 96) (.agg #[.bool false, .int .i64 av]) (oi := { dst := some 96, op := Go.Op.load 38 (Go.Operand.tmp 2), type := 38, pos := "law.go:71", after := #[{ on := 15, ground := Go.Ground.guard }], guard := some (15, true) }) rfl rfl (by kernel_rfl) (by kernel_rfl) (by kernel_rfl) (fun _ _ _ h => h) hS2 (by rfl) (fun w' hs => by (have h0 := hs.cell l0_11 c0_0_11; have h1 := hs.cell l0_11 c0_1_11; go_simp)) ?_
  simp only [Act.put, List.setIfInBounds_toArray, List.set_cons_zero, List.set_cons_succ]
  refine rg_call 19 (some 97) 24 #[.agg #[.bool false, .int .i64 av]] (oi := { dst := some 97, op := Go.Op.call { callee := Go.Callee.value (Go.Operand.func 24), args := #[Go.Operand.tmp 96], argTypes := #[38] }, type := 4, pos := "law.go:71", after := #[{ on := 18, ground := Go.Ground.data }, { on := 15, ground := Go.Ground.chain }, { on := 15, ground := Go.Ground.guard }], guard := some (15, true) }) rfl rfl (by kernel_rfl) (by rfl) (fun w' => by first | rfl | go_simp) (R := fun v w' => v = .bool false ∧ Ext wr2 w') ?_ ?_
  · refine (rodd_any false av _).mono ?_
    rw [HO.out]
    rintro e w' ⟨rfl, h⟩
    exact ⟨_, rfl, rfl, h⟩
  rintro _ wr3 ⟨rfl, hBr3⟩
  have hS3 := hS2.ext hBr3
  refine ⟨hS3, ?_⟩
  simp only [Act.put, List.setIfInBounds_toArray, List.set_cons_zero, List.set_cons_succ]
  refine rg_take 20 (some 98) (.bool true) (oi := { dst := some 98, op := Go.Op.binOp Go.BinOp.eql 4 (Go.Operand.tmp 95) (Go.Operand.tmp 97) 4, type := 4, pos := "law.go:71", after := #[{ on := 17, ground := Go.Ground.data }, { on := 19, ground := Go.Ground.data }, { on := 15, ground := Go.Ground.guard }], guard := some (15, true) }) rfl rfl (by kernel_rfl) (by kernel_rfl) (by kernel_rfl) (fun _ _ _ h => h) hS3 (by rfl) (fun w' hs => by first | rfl | go_simp) ?_
  simp only [Act.put, List.setIfInBounds_toArray, List.set_cons_zero, List.set_cons_succ]
  refine rg_take 21 (some 99) (.bool true) (oi := { dst := some 99, op := Go.Op.pick (Go.Operand.tmp 93) (Go.Operand.tmp 98) (Go.Operand.const (Go.Value.bool false)), type := 4, pos := "law.go:71", after := #[{ on := 15, ground := Go.Ground.data }, { on := 20, ground := Go.Ground.data }], guard := none }) rfl rfl (by kernel_rfl) (by kernel_rfl) (by kernel_rfl) (fun _ _ _ h => h) hS3 (by rfl) (fun w' hs => by rfl) ?_
  simp only [Act.put, List.setIfInBounds_toArray, List.set_cons_zero, List.set_cons_succ]
  refine rg_take 22 (some 100) (.bool true) (oi := { dst := some 100, op := Go.Op.move (Go.Operand.tmp 99), type := 4, pos := "law.go:71", after := #[{ on := 21, ground := Go.Ground.data }, { on := 19, ground := Go.Ground.chain }], guard := none }) rfl rfl (by kernel_rfl) (by kernel_rfl) (by kernel_rfl) (fun _ _ _ h => h) hS3 (by rfl) (fun w' hs => by rfl) ?_
  simp only [Act.put, List.setIfInBounds_toArray, List.set_cons_zero, List.set_cons_succ]
  refine rg_take 23 (some 101) (.pointer (some ⟨w10.heap.size, 0, none⟩)) (oi := { dst := some 101, op := Go.Op.fieldAddr 38 (Go.Operand.tmp 9) 0, type := 0, pos := "law.go:71", after := #[{ on := 22, ground := Go.Ground.guard }], guard := some (22, true) }) rfl rfl (by kernel_rfl) (by kernel_rfl) (by kernel_rfl) (fun _ _ _ h => h) hS3 (by rfl) (fun w' hs => by first | rfl | go_simp) ?_
  simp only [Act.put, List.setIfInBounds_toArray, List.set_cons_zero, List.set_cons_succ]
  refine rg_take 24 (some 102) (.bool false) (oi := { dst := some 102, op := Go.Op.load 4 (Go.Operand.tmp 101), type := 4, pos := "law.go:71", after := #[{ on := 23, ground := Go.Ground.data }, { on := 22, ground := Go.Ground.guard }], guard := some (22, true) }) rfl rfl (by kernel_rfl) (by kernel_rfl) (by kernel_rfl) (fun _ _ _ h => h) hS3 (by rfl) (fun w' hs => by (have h0 := hs.cell l3_11 c3_0_11; go_simp)) ?_
  simp only [Act.put, List.setIfInBounds_toArray, List.set_cons_zero, List.set_cons_succ]
  refine rg_take 25 (some 103) (.bool false) (oi := { dst := some 103, op := Go.Op.move (Go.Operand.tmp 102), type := 4, pos := "law.go:71", after := #[{ on := 24, ground := Go.Ground.data }, { on := 22, ground := Go.Ground.chain }, { on := 22, ground := Go.Ground.guard }], guard := some (22, true) }) rfl rfl (by kernel_rfl) (by kernel_rfl) (by kernel_rfl) (fun _ _ _ h => h) hS3 (by rfl) (fun w' hs => by rfl) ?_
  simp only [Act.put, List.setIfInBounds_toArray, List.set_cons_zero, List.set_cons_succ]
  refine rg_take 26 (some 104) (.pointer (some ⟨w10.heap.size, 1, none⟩)) (oi := { dst := some 104, op := Go.Op.fieldAddr 38 (Go.Operand.tmp 9) 1, type := 0, pos := "law.go:71", after := #[{ on := 25, ground := Go.Ground.guard }], guard := some (25, false) }) rfl rfl (by kernel_rfl) (by kernel_rfl) (by kernel_rfl) (fun _ _ _ h => h) hS3 (by rfl) (fun w' hs => by first | rfl | go_simp) ?_
  simp only [Act.put, List.setIfInBounds_toArray, List.set_cons_zero, List.set_cons_succ]
  refine rg_take 27 (some 105) (.int .i64 (-av)) (oi := { dst := some 105, op := Go.Op.load 2 (Go.Operand.tmp 104), type := 2, pos := "law.go:71", after := #[{ on := 26, ground := Go.Ground.data }, { on := 25, ground := Go.Ground.guard }], guard := some (25, false) }) rfl rfl (by kernel_rfl) (by kernel_rfl) (by kernel_rfl) (fun _ _ _ h => h) hS3 (by rfl) (fun w' hs => by (have h0 := hs.cell l3_11 c3_1_11; go_simp)) ?_
  simp only [Act.put, List.setIfInBounds_toArray, List.set_cons_zero, List.set_cons_succ]
  refine rg_take 28 (some 106) (.pointer (some ⟨w.heap.size, 1, none⟩)) (oi := { dst := some 106, op := Go.Op.fieldAddr 38 (Go.Operand.tmp 2) 1, type := 0, pos := "law.go:71", after := #[{ on := 25, ground := Go.Ground.guard }], guard := some (25, false) }) rfl rfl (by kernel_rfl) (by kernel_rfl) (by kernel_rfl) (fun _ _ _ h => h) hS3 (by rfl) (fun w' hs => by first | rfl | go_simp) ?_
  simp only [Act.put, List.setIfInBounds_toArray, List.set_cons_zero, List.set_cons_succ]
  refine rg_take 29 (some 107) (.int .i64 av) (oi := { dst := some 107, op := Go.Op.load 2 (Go.Operand.tmp 106), type := 2, pos := "law.go:71", after := #[{ on := 28, ground := Go.Ground.data }, { on := 25, ground := Go.Ground.guard }], guard := some (25, false) }) rfl rfl (by kernel_rfl) (by kernel_rfl) (by kernel_rfl) (fun _ _ _ h => h) hS3 (by rfl) (fun w' hs => by (have h0 := hs.cell l0_11 c0_1_11; go_simp)) ?_
  simp only [Act.put, List.setIfInBounds_toArray, List.set_cons_zero, List.set_cons_succ]
  refine rg_take 30 (some 108) (.int .i64 (-av)) (oi := { dst := some 108, op := Go.Op.unOp Go.UnOp.neg 2 (Go.Operand.tmp 107), type := 2, pos := "law.go:71", after := #[{ on := 29, ground := Go.Ground.data }, { on := 25, ground := Go.Ground.guard }], guard := some (25, false) }) rfl rfl (by kernel_rfl) (by kernel_rfl) (by kernel_rfl) (fun _ _ _ h => h) hS3 (by rfl) (fun w' hs => by (go_simp; exact IntWalk.i64_in _ (by omega))) ?_
  simp only [Act.put, List.setIfInBounds_toArray, List.set_cons_zero, List.set_cons_succ]
  refine rg_take 31 (some 109) (.bool true) (oi := { dst := some 109, op := Go.Op.binOp Go.BinOp.eql 2 (Go.Operand.tmp 105) (Go.Operand.tmp 108) 2, type := 4, pos := "law.go:71", after := #[{ on := 27, ground := Go.Ground.data }, { on := 30, ground := Go.Ground.data }, { on := 25, ground := Go.Ground.guard }], guard := some (25, false) }) rfl rfl (by kernel_rfl) (by kernel_rfl) (by kernel_rfl) (fun _ _ _ h => h) hS3 (by rfl) (fun w' hs => by first | rfl | go_simp) ?_
  simp only [Act.put, List.setIfInBounds_toArray, List.set_cons_zero, List.set_cons_succ]
  refine rg_take 32 (some 110) (.bool true) (oi := { dst := some 110, op := Go.Op.pick (Go.Operand.tmp 103) (Go.Operand.const (Go.Value.bool true)) (Go.Operand.tmp 109), type := 4, pos := "law.go:71", after := #[{ on := 25, ground := Go.Ground.data }, { on := 31, ground := Go.Ground.data }, { on := 22, ground := Go.Ground.guard }], guard := some (22, true) }) rfl rfl (by kernel_rfl) (by kernel_rfl) (by kernel_rfl) (fun _ _ _ h => h) hS3 (by rfl) (fun w' hs => by rfl) ?_
  simp only [Act.put, List.setIfInBounds_toArray, List.set_cons_zero, List.set_cons_succ]
  refine rg_take 33 (some 111) (.bool true) (oi := { dst := some 111, op := Go.Op.pick (Go.Operand.tmp 100) (Go.Operand.tmp 110) (Go.Operand.const (Go.Value.bool false)), type := 4, pos := "law.go:71", after := #[{ on := 22, ground := Go.Ground.data }, { on := 32, ground := Go.Ground.data }], guard := none }) rfl rfl (by kernel_rfl) (by kernel_rfl) (by kernel_rfl) (fun _ _ _ h => h) hS3 (by rfl) (fun w' hs => by rfl) ?_
  simp only [Act.put, List.setIfInBounds_toArray, List.set_cons_zero, List.set_cons_succ]
  refine rg_take 34 (some 4) (.bool true) (oi := { dst := some 4, op := Go.Op.assign (Go.Operand.tmp 111), type := 4, pos := "law.go:71", after := #[{ on := 33, ground := Go.Ground.data }, { on := 25, ground := Go.Ground.chain }, { on := 0, ground := Go.Ground.phase }, { on := 1, ground := Go.Ground.phase }, { on := 2, ground := Go.Ground.phase }, { on := 3, ground := Go.Ground.phase }, { on := 4, ground := Go.Ground.phase }, { on := 5, ground := Go.Ground.phase }, { on := 6, ground := Go.Ground.phase }, { on := 7, ground := Go.Ground.phase }, { on := 8, ground := Go.Ground.phase }, { on := 9, ground := Go.Ground.phase }, { on := 10, ground := Go.Ground.phase }, { on := 11, ground := Go.Ground.phase }, { on := 12, ground := Go.Ground.phase }, { on := 13, ground := Go.Ground.phase }, { on := 14, ground := Go.Ground.phase }, { on := 15, ground := Go.Ground.phase }, { on := 16, ground := Go.Ground.phase }, { on := 17, ground := Go.Ground.phase }, { on := 18, ground := Go.Ground.phase }, { on := 19, ground := Go.Ground.phase }, { on := 20, ground := Go.Ground.phase }, { on := 21, ground := Go.Ground.phase }, { on := 22, ground := Go.Ground.phase }, { on := 23, ground := Go.Ground.phase }, { on := 24, ground := Go.Ground.phase }, { on := 25, ground := Go.Ground.phase }, { on := 26, ground := Go.Ground.phase }, { on := 27, ground := Go.Ground.phase }, { on := 28, ground := Go.Ground.phase }, { on := 29, ground := Go.Ground.phase }, { on := 30, ground := Go.Ground.phase }, { on := 31, ground := Go.Ground.phase }, { on := 32, ground := Go.Ground.phase }, { on := 33, ground := Go.Ground.phase }], guard := none }) rfl rfl (by kernel_rfl) (by kernel_rfl) (by kernel_rfl) (fun _ _ _ h => h) hS3 (by rfl) (fun w' hs => by rfl) ?_
  simp only [Act.put, List.setIfInBounds_toArray, List.set_cons_zero, List.set_cons_succ]
  refine rg_done (by kernel_rfl) ?_
  obtain ⟨w12, hW12⟩ : ∃ wz, wr3 = wz := ⟨_, rfl⟩
  rw [hW12] at hS3 ⊢
  have hB12 : Ext w11 w12 := hS3
  clear hW12
  have hz12 := hB12.size
  have l0_12 : w.heap.size < w12.heap.size := Nat.lt_of_lt_of_le l0_11 hz12
  have c0_0_12 : w12.cell? ⟨w.heap.size, 0, none⟩ = some (.bool false) := hB12.keep l0_11 c0_0_11
  have c0_1_12 : w12.cell? ⟨w.heap.size, 1, none⟩ = some (.int .i64 av) := hB12.keep l0_11 c0_1_11
  have l1_12 : w2.heap.size < w12.heap.size := Nat.lt_of_lt_of_le l1_11 hz12
  have c1_0_12 : w12.cell? ⟨w2.heap.size, 0, none⟩ = some (.bool r3) := hB12.keep l1_11 c1_0_11
  have c1_1_12 : w12.cell? ⟨w2.heap.size, 1, none⟩ = some (.int .i64 s3) := hB12.keep l1_11 c1_1_11
  have l2_12 : w3.heap.size < w12.heap.size := Nat.lt_of_lt_of_le l2_11 hz12
  have c2_0_12 : w12.cell? ⟨w3.heap.size, 0, none⟩ = some (.bool r3) := hB12.keep l2_11 c2_0_11
  have c2_1_12 : w12.cell? ⟨w3.heap.size, 1, none⟩ = some (.int .i64 s3) := hB12.keep l2_11 c2_1_11
  have l3_12 : w10.heap.size < w12.heap.size := Nat.lt_of_lt_of_le l3_11 hz12
  have c3_0_12 : w12.cell? ⟨w10.heap.size, 0, none⟩ = some (.bool false) := hB12.keep l3_11 c3_0_11
  have c3_1_12 : w12.cell? ⟨w10.heap.size, 1, none⟩ = some (.int .i64 (-av)) := hB12.keep l3_11 c3_1_11
  clear c0_0_11 c0_1_11 l0_11 c1_0_11 c1_1_11 l1_11 c2_0_11 c2_1_11 l2_11 c3_0_11 c3_1_11 l3_11
  clear hS hS1 hBr1 hS2 hBr2 hS3 hBr3
  go_wp2_with fail
  go_ret
  refine ⟨rfl, ?_⟩
  repeat (first | exact Ext.refl _ | refine Ext.set ?_ (by dsimp only; omega) _ | refine Ext.alloc ?_ _ | refine Ext.drew ?_ | refine (Ext.trans ?_ (by assumption)))
theorem one_walk (an : Bool) (av n : Int) (w : World) (G : Glob w) :
    Calls Tryd.prog 10 #[.agg #[.bool an, .int .i64 av], .int .i64 n] w fun e w' => e = .returned (.bool true) ∧ Ext w w' := by
  cases ho : oddB an av with
  | true => exact one_odd an av n w G ho
  | false =>
    have ho' := ho
    obtain ⟨rfl, _, _⟩ := oddB_false ho'
    exact one_okk av n w G ho
end Go.Proofs.YtcdpjgdaofgpcaaDoor
