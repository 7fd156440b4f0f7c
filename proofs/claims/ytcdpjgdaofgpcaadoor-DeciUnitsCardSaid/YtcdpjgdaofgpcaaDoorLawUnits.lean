/-
  The walk of recensionlaw03.DeciUnits: it returns true, whatever the number. Helper lemmas; the statement itself is proved in the row's text.
-/
import Derived.Test.YtcdpjgdaofgpcaaDoorDeciAwake
import Derived.Test.YtcdpjgdaofgpcaaDoorRef3
import Derived.Deep.RegionHeld3
namespace Go.Proofs.YtcdpjgdaofgpcaaDoor
open Go.RowKit
set_option maxRecDepth 100000
set_option linter.unusedVariables false

theorem mulS_one (a : Int) : mulS a 1000000 = fitS a := by
  unfold mulS signed
  rw [show (1000000 : Int).natAbs = 1000000 from rfl, Nat.mul_div_cancel _ (by decide)]
  by_cases h : a < 0
  · rw [if_pos (by simp [h])]; congr 1; omega
  · rw [if_neg (by simp [h])]; congr 1; omega
theorem divS_one (a : Int) : divS a 1000000 = fitS a := by
  unfold divS signed
  rw [if_neg (by decide), show (1000000 : Int).natAbs = 1000000 from rfl, Nat.mul_div_cancel _ (by decide)]
  by_cases h : a < 0
  · rw [if_pos (by simp [h])]; congr 1; omega
  · rw [if_neg (by simp [h])]; congr 1; omega
theorem one_ok (av : Int) (h : oddB false av = false) : fitS av = ((false, av), 0) := by
  obtain ⟨_, a1, a2⟩ := oddB_false h
  exact fitS_in a1 a2
theorem two_ok (av bv : Int) (r : Out) (h : oddB false av = false) (h' : oddB false bv = false) : two false false av bv r = r := by rw [two, if_neg (by rw [h, h']; decide)]
theorem two_no (an bn : Bool) (av bv : Int) (r : Out) (h : oddB an av = true) : two an bn av bv r = ((true, 0), 0) := by rw [two, if_pos (by rw [h]; rfl)]; rfl

set_option maxHeartbeats 4000000 in
theorem units_odd (an : Bool) (av : Int) (w : World) (G : Glob w) (ho : oddB an av = true) :
    Calls Tryd.prog 6 #[.agg #[.bool an, .int .i64 av]] w fun e w' => e = .returned (.bool true) ∧ Ext w w' := by
  have E1 : Hid (two an false av 1000000 (mulS av 1000000) = ((true, 0), 0)) := two_no _ _ _ _ _ ho
  have E2 : Hid (two an false av 1000000 (divS av 1000000) = ((true, 0), 0)) := two_no _ _ _ _ _ ho
  have E3 : Hid (two an false av 0 (fitS (av + 0)) = ((true, 0), 0)) := two_no _ _ _ _ _ ho
  have E4 : Hid (two an an av av (fitS (av - av)) = ((true, 0), 0)) := two_no _ _ _ _ _ ho
  have HO := Lib.hid ho; clear ho
  go_enter Tryd.func6, Tryd.ntmps6
  go_wp2_with fail
  refine (awake3 _ (G.alloc _)).mono ?_
  rintro e w1 ⟨rfl, hB1⟩
  have hz1 := hB1.size
  simp at hz1
  have l0_1 : w.heap.size < w1.heap.size := by omega
  have c0_0_1 : w1.cell? ⟨w.heap.size, 0, none⟩ = some (.bool an) := hB1.keep (by first | (simp; done) | (simp; omega)) (by simp [go_sem])
  have c0_1_1 : w1.cell? ⟨w.heap.size, 1, none⟩ = some (.int .i64 av) := hB1.keep (by first | (simp; done) | (simp; omega)) (by simp [go_sem])
  go_wp2_with fail
  refine (mul_any an false av 1000000 _).mono ?_
  rw [E1.out]
  rintro e w2 ⟨rfl, hB2⟩
  have hz2 := hB2.size
  simp at hz2
  have l0_2 : w.heap.size < w2.heap.size := by omega
  have l1_2 : w1.heap.size < w2.heap.size := by omega
  have c0_0_2 : w2.cell? ⟨w.heap.size, 0, none⟩ = some (.bool an) := hB2.keep (by first | (simp; done) | (simp; omega)) (by simp [go_sem, l0_1, c0_0_1])
  have c0_1_2 : w2.cell? ⟨w.heap.size, 1, none⟩ = some (.int .i64 av) := hB2.keep (by first | (simp; done) | (simp; omega)) (by simp [go_sem, l0_1, c0_1_1])
  have c1_0_2 : w2.cell? ⟨w1.heap.size, 0, none⟩ = some (.bool false) := hB2.keep (by first | (simp; done) | (simp; omega)) (by simp [go_sem])
  have c1_1_2 : w2.cell? ⟨w1.heap.size, 1, none⟩ = some (.int .i64 1000000) := hB2.keep (by first | (simp; done) | (simp; omega)) (by simp [go_sem])
  clear c0_0_1 c0_1_1 l0_1
  go_wp2_with fail
  refine (div_any an false av 1000000 _).mono ?_
  rw [E2.out]
  rintro e w3 ⟨rfl, hB3⟩
  have hz3 := hB3.size
  simp at hz3
  have l0_3 : w.heap.size < w3.heap.size := by omega
  have l1_3 : w1.heap.size < w3.heap.size := by omega
  have l2_3 : w2.heap.size < w3.heap.size := by omega
  have c0_0_3 : w3.cell? ⟨w.heap.size, 0, none⟩ = some (.bool an) := hB3.keep (by first | (simp; done) | (simp; omega)) (by simp [go_sem, l0_2, c0_0_2])
  have c0_1_3 : w3.cell? ⟨w.heap.size, 1, none⟩ = some (.int .i64 av) := hB3.keep (by first | (simp; done) | (simp; omega)) (by simp [go_sem, l0_2, c0_1_2])
  have c1_0_3 : w3.cell? ⟨w1.heap.size, 0, none⟩ = some (.bool false) := hB3.keep (by first | (simp; done) | (simp; omega)) (by simp [go_sem, l1_2, c1_0_2])
  have c1_1_3 : w3.cell? ⟨w1.heap.size, 1, none⟩ = some (.int .i64 1000000) := hB3.keep (by first | (simp; done) | (simp; omega)) (by simp [go_sem, l1_2, c1_1_2])
  have c2_0_3 : w3.cell? ⟨w2.heap.size, 0, none⟩ = some (.bool true) := hB3.keep (by first | (simp; done) | (simp; omega)) (by simp [go_sem])
  have c2_1_3 : w3.cell? ⟨w2.heap.size, 1, none⟩ = some (.int .i64 0) := hB3.keep (by first | (simp; done) | (simp; omega)) (by simp [go_sem])
  clear c0_0_2 c0_1_2 c1_0_2 c1_1_2 l0_2 l1_2
  go_wp2_with fail
  refine (add_any an false av 0 _).mono ?_
  rw [E3.out]
  rintro e w4 ⟨rfl, hB4⟩
  have hz4 := hB4.size
  simp at hz4
  have l0_4 : w.heap.size < w4.heap.size := by omega
  have l1_4 : w1.heap.size < w4.heap.size := by omega
  have l2_4 : w2.heap.size < w4.heap.size := by omega
  have l3_4 : w3.heap.size < w4.heap.size := by omega
  have c0_0_4 : w4.cell? ⟨w.heap.size, 0, none⟩ = some (.bool an) := hB4.keep (by first | (simp; done) | (simp; omega)) (by simp [go_sem, l0_3, c0_0_3])
  have c0_1_4 : w4.cell? ⟨w.heap.size, 1, none⟩ = some (.int .i64 av) := hB4.keep (by first | (simp; done) | (simp; omega)) (by simp [go_sem, l0_3, c0_1_3])
  have c1_0_4 : w4.cell? ⟨w1.heap.size, 0, none⟩ = some (.bool false) := hB4.keep (by first | (simp; done) | (simp; omega)) (by simp [go_sem, l1_3, c1_0_3])
  have c1_1_4 : w4.cell? ⟨w1.heap.size, 1, none⟩ = some (.int .i64 1000000) := hB4.keep (by first | (simp; done) | (simp; omega)) (by simp [go_sem, l1_3, c1_1_3])
  have c2_0_4 : w4.cell? ⟨w2.heap.size, 0, none⟩ = some (.bool true) := hB4.keep (by first | (simp; done) | (simp; omega)) (by simp [go_sem, l2_3, c2_0_3])
  have c2_1_4 : w4.cell? ⟨w2.heap.size, 1, none⟩ = some (.int .i64 0) := hB4.keep (by first | (simp; done) | (simp; omega)) (by simp [go_sem, l2_3, c2_1_3])
  have c3_0_4 : w4.cell? ⟨w3.heap.size, 0, none⟩ = some (.bool true) := hB4.keep (by first | (simp; done) | (simp; omega)) (by simp [go_sem])
  have c3_1_4 : w4.cell? ⟨w3.heap.size, 1, none⟩ = some (.int .i64 0) := hB4.keep (by first | (simp; done) | (simp; omega)) (by simp [go_sem])
  clear c0_0_3 c0_1_3 c1_0_3 c1_1_3 c2_0_3 c2_1_3 l0_3 l1_3 l2_3
  go_wp2_with fail
  refine (sub_any an an av av _).mono ?_
  rw [E4.out]
  rintro e w5 ⟨rfl, hB5⟩
  have hz5 := hB5.size
  simp at hz5
  have l0_5 : w.heap.size < w5.heap.size := by omega
  have l1_5 : w1.heap.size < w5.heap.size := by omega
  have l2_5 : w2.heap.size < w5.heap.size := by omega
  have l3_5 : w3.heap.size < w5.heap.size := by omega
  have l4_5 : w4.heap.size < w5.heap.size := by omega
  have c0_0_5 : w5.cell? ⟨w.heap.size, 0, none⟩ = some (.bool an) := hB5.keep (by first | (simp; done) | (simp; omega)) (by simp [go_sem, l0_4, c0_0_4])
  have c0_1_5 : w5.cell? ⟨w.heap.size, 1, none⟩ = some (.int .i64 av) := hB5.keep (by first | (simp; done) | (simp; omega)) (by simp [go_sem, l0_4, c0_1_4])
  have c1_0_5 : w5.cell? ⟨w1.heap.size, 0, none⟩ = some (.bool false) := hB5.keep (by first | (simp; done) | (simp; omega)) (by simp [go_sem, l1_4, c1_0_4])
  have c1_1_5 : w5.cell? ⟨w1.heap.size, 1, none⟩ = some (.int .i64 1000000) := hB5.keep (by first | (simp; done) | (simp; omega)) (by simp [go_sem, l1_4, c1_1_4])
  have c2_0_5 : w5.cell? ⟨w2.heap.size, 0, none⟩ = some (.bool true) := hB5.keep (by first | (simp; done) | (simp; omega)) (by simp [go_sem, l2_4, c2_0_4])
  have c2_1_5 : w5.cell? ⟨w2.heap.size, 1, none⟩ = some (.int .i64 0) := hB5.keep (by first | (simp; done) | (simp; omega)) (by simp [go_sem, l2_4, c2_1_4])
  have c3_0_5 : w5.cell? ⟨w3.heap.size, 0, none⟩ = some (.bool true) := hB5.keep (by first | (simp; done) | (simp; omega)) (by simp [go_sem, l3_4, c3_0_4])
  have c3_1_5 : w5.cell? ⟨w3.heap.size, 1, none⟩ = some (.int .i64 0) := hB5.keep (by first | (simp; done) | (simp; omega)) (by simp [go_sem, l3_4, c3_1_4])
  have c4_0_5 : w5.cell? ⟨w4.heap.size, 0, none⟩ = some (.bool true) := hB5.keep (by first | (simp; done) | (simp; omega)) (by simp [go_sem])
  have c4_1_5 : w5.cell? ⟨w4.heap.size, 1, none⟩ = some (.int .i64 0) := hB5.keep (by first | (simp; done) | (simp; omega)) (by simp [go_sem])
  clear c0_0_4 c0_1_4 c1_0_4 c1_1_4 c2_0_4 c2_1_4 c3_0_4 c3_1_4 l0_4 l1_4 l2_4 l3_4
  go_wp2_with fail
  refine (rodd_any an av _).mono ?_
  rw [HO.out]
  rintro e w6 ⟨rfl, hB6⟩
  have hz6 := hB6.size
  simp at hz6
  have l0_6 : w.heap.size < w6.heap.size := by omega
  have l1_6 : w1.heap.size < w6.heap.size := by omega
  have l2_6 : w2.heap.size < w6.heap.size := by omega
  have l3_6 : w3.heap.size < w6.heap.size := by omega
  have l4_6 : w4.heap.size < w6.heap.size := by omega
  have l5_6 : w5.heap.size < w6.heap.size := by omega
  have c0_0_6 : w6.cell? ⟨w.heap.size, 0, none⟩ = some (.bool an) := hB6.keep (by first | (simp; done) | (simp; omega)) (by simp [go_sem, l0_5, c0_0_5])
  have c0_1_6 : w6.cell? ⟨w.heap.size, 1, none⟩ = some (.int .i64 av) := hB6.keep (by first | (simp; done) | (simp; omega)) (by simp [go_sem, l0_5, c0_1_5])
  have c1_0_6 : w6.cell? ⟨w1.heap.size, 0, none⟩ = some (.bool false) := hB6.keep (by first | (simp; done) | (simp; omega)) (by simp [go_sem, l1_5, c1_0_5])
  have c1_1_6 : w6.cell? ⟨w1.heap.size, 1, none⟩ = some (.int .i64 1000000) := hB6.keep (by first | (simp; done) | (simp; omega)) (by simp [go_sem, l1_5, c1_1_5])
  have c2_0_6 : w6.cell? ⟨w2.heap.size, 0, none⟩ = some (.bool true) := hB6.keep (by first | (simp; done) | (simp; omega)) (by simp [go_sem, l2_5, c2_0_5])
  have c2_1_6 : w6.cell? ⟨w2.heap.size, 1, none⟩ = some (.int .i64 0) := hB6.keep (by first | (simp; done) | (simp; omega)) (by simp [go_sem, l2_5, c2_1_5])
  have c3_0_6 : w6.cell? ⟨w3.heap.size, 0, none⟩ = some (.bool true) := hB6.keep (by first | (simp; done) | (simp; omega)) (by simp [go_sem, l3_5, c3_0_5])
  have c3_1_6 : w6.cell? ⟨w3.heap.size, 1, none⟩ = some (.int .i64 0) := hB6.keep (by first | (simp; done) | (simp; omega)) (by simp [go_sem, l3_5, c3_1_5])
  have c4_0_6 : w6.cell? ⟨w4.heap.size, 0, none⟩ = some (.bool true) := hB6.keep (by first | (simp; done) | (simp; omega)) (by simp [go_sem, l4_5, c4_0_5])
  have c4_1_6 : w6.cell? ⟨w4.heap.size, 1, none⟩ = some (.int .i64 0) := hB6.keep (by first | (simp; done) | (simp; omega)) (by simp [go_sem, l4_5, c4_1_5])
  have c5_0_6 : w6.cell? ⟨w5.heap.size, 0, none⟩ = some (.bool true) := hB6.keep (by first | (simp; done) | (simp; omega)) (by simp [go_sem])
  have c5_1_6 : w6.cell? ⟨w5.heap.size, 1, none⟩ = some (.int .i64 0) := hB6.keep (by first | (simp; done) | (simp; omega)) (by simp [go_sem])
  clear c0_0_5 c0_1_5 c1_0_5 c1_1_5 c2_0_5 c2_1_5 c3_0_5 c3_1_5 c4_0_5 c4_1_5 l0_5 l1_5 l2_5 l3_5 l4_5
  go_wp2_with fail
  go_ret
  refine ⟨rfl, ?_⟩
  repeat (first | exact Ext.refl _ | refine Ext.set ?_ (by dsimp only; omega) _ | refine Ext.alloc ?_ _ | refine Ext.drew ?_ | refine (Ext.trans ?_ (by assumption)))
set_option maxHeartbeats 4000000 in
theorem units_ok (av : Int) (w : World) (G : Glob w) (ho : oddB false av = false) :
    Calls Tryd.prog 6 #[.agg #[.bool false, .int .i64 av]] w fun e w' => e = .returned (.bool true) ∧ Ext w w' := by
  have o1 : oddB false 1000000 = false := by decide
  have o0 : oddB false 0 = false := by decide
  have E1 : Hid (two false false av 1000000 (mulS av 1000000) = ((false, av), 0)) := by refine Lib.hid ?_; rw [two_ok _ _ _ ho o1, mulS_one, one_ok av ho]
  have E2 : Hid (two false false av 1000000 (divS av 1000000) = ((false, av), 0)) := by refine Lib.hid ?_; rw [two_ok _ _ _ ho o1, divS_one, one_ok av ho]
  have E3 : Hid (two false false av 0 (fitS (av + 0)) = ((false, av), 0)) := by refine Lib.hid ?_; rw [two_ok _ _ _ ho o0, Int.add_zero, one_ok av ho]
  have E4 : Hid (two false false av av (fitS (av - av)) = ((false, 0), 0)) := by refine Lib.hid ?_; rw [two_ok _ _ _ ho ho, Int.sub_self, one_ok 0 o0]
  have ho2 : oddB false (-av) = false := by obtain ⟨_, a1, a2⟩ := oddB_false ho; exact oddB_no _ (by omega) (by omega)
  have E5 : Hid (negS false av = (false, -av)) := by refine Lib.hid ?_; rw [negS, if_neg (by rw [ho]; decide)]
  have E6 : Hid (negS false (-av) = (false, av)) := by refine Lib.hid ?_; rw [negS, if_neg (by rw [ho2]; decide), Int.neg_neg]
  clear o1 o0 ho2
  have HO := Lib.hid ho; clear ho
  go_enter Tryd.func6, Tryd.ntmps6
  go_wp2_with fail
  refine (awake3 _ (G.alloc _)).mono ?_
  rintro e w1 ⟨rfl, hB1⟩
  have hz1 := hB1.size
  simp at hz1
  have l0_1 : w.heap.size < w1.heap.size := by omega
  have c0_0_1 : w1.cell? ⟨w.heap.size, 0, none⟩ = some (.bool false) := hB1.keep (by first | (simp; done) | (simp; omega)) (by simp [go_sem])
  have c0_1_1 : w1.cell? ⟨w.heap.size, 1, none⟩ = some (.int .i64 av) := hB1.keep (by first | (simp; done) | (simp; omega)) (by simp [go_sem])
  go_wp2_with fail
  refine (mul_any false false av 1000000 _).mono ?_
  rw [E1.out]
  rintro e w2 ⟨rfl, hB2⟩
  have hz2 := hB2.size
  simp at hz2
  have l0_2 : w.heap.size < w2.heap.size := by omega
  have l1_2 : w1.heap.size < w2.heap.size := by omega
  have c0_0_2 : w2.cell? ⟨w.heap.size, 0, none⟩ = some (.bool false) := hB2.keep (by first | (simp; done) | (simp; omega)) (by simp [go_sem, l0_1, c0_0_1])
  have c0_1_2 : w2.cell? ⟨w.heap.size, 1, none⟩ = some (.int .i64 av) := hB2.keep (by first | (simp; done) | (simp; omega)) (by simp [go_sem, l0_1, c0_1_1])
  have c1_0_2 : w2.cell? ⟨w1.heap.size, 0, none⟩ = some (.bool false) := hB2.keep (by first | (simp; done) | (simp; omega)) (by simp [go_sem])
  have c1_1_2 : w2.cell? ⟨w1.heap.size, 1, none⟩ = some (.int .i64 1000000) := hB2.keep (by first | (simp; done) | (simp; omega)) (by simp [go_sem])
  clear c0_0_1 c0_1_1 l0_1
  go_wp2_with fail
  refine (div_any false false av 1000000 _).mono ?_
  rw [E2.out]
  rintro e w3 ⟨rfl, hB3⟩
  have hz3 := hB3.size
  simp at hz3
  have l0_3 : w.heap.size < w3.heap.size := by omega
  have l1_3 : w1.heap.size < w3.heap.size := by omega
  have l2_3 : w2.heap.size < w3.heap.size := by omega
  have c0_0_3 : w3.cell? ⟨w.heap.size, 0, none⟩ = some (.bool false) := hB3.keep (by first | (simp; done) | (simp; omega)) (by simp [go_sem, l0_2, c0_0_2])
  have c0_1_3 : w3.cell? ⟨w.heap.size, 1, none⟩ = some (.int .i64 av) := hB3.keep (by first | (simp; done) | (simp; omega)) (by simp [go_sem, l0_2, c0_1_2])
  have c1_0_3 : w3.cell? ⟨w1.heap.size, 0, none⟩ = some (.bool false) := hB3.keep (by first | (simp; done) | (simp; omega)) (by simp [go_sem, l1_2, c1_0_2])
  have c1_1_3 : w3.cell? ⟨w1.heap.size, 1, none⟩ = some (.int .i64 1000000) := hB3.keep (by first | (simp; done) | (simp; omega)) (by simp [go_sem, l1_2, c1_1_2])
  have c2_0_3 : w3.cell? ⟨w2.heap.size, 0, none⟩ = some (.bool false) := hB3.keep (by first | (simp; done) | (simp; omega)) (by simp [go_sem])
  have c2_1_3 : w3.cell? ⟨w2.heap.size, 1, none⟩ = some (.int .i64 av) := hB3.keep (by first | (simp; done) | (simp; omega)) (by simp [go_sem])
  clear c0_0_2 c0_1_2 c1_0_2 c1_1_2 l0_2 l1_2
  go_wp2_with fail
  refine (add_any false false av 0 _).mono ?_
  rw [E3.out]
  rintro e w4 ⟨rfl, hB4⟩
  have hz4 := hB4.size
  simp at hz4
  have l0_4 : w.heap.size < w4.heap.size := by omega
  have l1_4 : w1.heap.size < w4.heap.size := by omega
  have l2_4 : w2.heap.size < w4.heap.size := by omega
  have l3_4 : w3.heap.size < w4.heap.size := by omega
  have c0_0_4 : w4.cell? ⟨w.heap.size, 0, none⟩ = some (.bool false) := hB4.keep (by first | (simp; done) | (simp; omega)) (by simp [go_sem, l0_3, c0_0_3])
  have c0_1_4 : w4.cell? ⟨w.heap.size, 1, none⟩ = some (.int .i64 av) := hB4.keep (by first | (simp; done) | (simp; omega)) (by simp [go_sem, l0_3, c0_1_3])
  have c1_0_4 : w4.cell? ⟨w1.heap.size, 0, none⟩ = some (.bool false) := hB4.keep (by first | (simp; done) | (simp; omega)) (by simp [go_sem, l1_3, c1_0_3])
  have c1_1_4 : w4.cell? ⟨w1.heap.size, 1, none⟩ = some (.int .i64 1000000) := hB4.keep (by first | (simp; done) | (simp; omega)) (by simp [go_sem, l1_3, c1_1_3])
  have c2_0_4 : w4.cell? ⟨w2.heap.size, 0, none⟩ = some (.bool false) := hB4.keep (by first | (simp; done) | (simp; omega)) (by simp [go_sem, l2_3, c2_0_3])
  have c2_1_4 : w4.cell? ⟨w2.heap.size, 1, none⟩ = some (.int .i64 av) := hB4.keep (by first | (simp; done) | (simp; omega)) (by simp [go_sem, l2_3, c2_1_3])
  have c3_0_4 : w4.cell? ⟨w3.heap.size, 0, none⟩ = some (.bool false) := hB4.keep (by first | (simp; done) | (simp; omega)) (by simp [go_sem])
  have c3_1_4 : w4.cell? ⟨w3.heap.size, 1, none⟩ = some (.int .i64 av) := hB4.keep (by first | (simp; done) | (simp; omega)) (by simp [go_sem])
  clear c0_0_3 c0_1_3 c1_0_3 c1_1_3 c2_0_3 c2_1_3 l0_3 l1_3 l2_3
  go_wp2_with fail
  refine (sub_any false false av av _).mono ?_
  rw [E4.out]
  rintro e w5 ⟨rfl, hB5⟩
  have hz5 := hB5.size
  simp at hz5
  have l0_5 : w.heap.size < w5.heap.size := by omega
  have l1_5 : w1.heap.size < w5.heap.size := by omega
  have l2_5 : w2.heap.size < w5.heap.size := by omega
  have l3_5 : w3.heap.size < w5.heap.size := by omega
  have l4_5 : w4.heap.size < w5.heap.size := by omega
  have c0_0_5 : w5.cell? ⟨w.heap.size, 0, none⟩ = some (.bool false) := hB5.keep (by first | (simp; done) | (simp; omega)) (by simp [go_sem, l0_4, c0_0_4])
  have c0_1_5 : w5.cell? ⟨w.heap.size, 1, none⟩ = some (.int .i64 av) := hB5.keep (by first | (simp; done) | (simp; omega)) (by simp [go_sem, l0_4, c0_1_4])
  have c1_0_5 : w5.cell? ⟨w1.heap.size, 0, none⟩ = some (.bool false) := hB5.keep (by first | (simp; done) | (simp; omega)) (by simp [go_sem, l1_4, c1_0_4])
  have c1_1_5 : w5.cell? ⟨w1.heap.size, 1, none⟩ = some (.int .i64 1000000) := hB5.keep (by first | (simp; done) | (simp; omega)) (by simp [go_sem, l1_4, c1_1_4])
  have c2_0_5 : w5.cell? ⟨w2.heap.size, 0, none⟩ = some (.bool false) := hB5.keep (by first | (simp; done) | (simp; omega)) (by simp [go_sem, l2_4, c2_0_4])
  have c2_1_5 : w5.cell? ⟨w2.heap.size, 1, none⟩ = some (.int .i64 av) := hB5.keep (by first | (simp; done) | (simp; omega)) (by simp [go_sem, l2_4, c2_1_4])
  have c3_0_5 : w5.cell? ⟨w3.heap.size, 0, none⟩ = some (.bool false) := hB5.keep (by first | (simp; done) | (simp; omega)) (by simp [go_sem, l3_4, c3_0_4])
  have c3_1_5 : w5.cell? ⟨w3.heap.size, 1, none⟩ = some (.int .i64 av) := hB5.keep (by first | (simp; done) | (simp; omega)) (by simp [go_sem, l3_4, c3_1_4])
  have c4_0_5 : w5.cell? ⟨w4.heap.size, 0, none⟩ = some (.bool false) := hB5.keep (by first | (simp; done) | (simp; omega)) (by simp [go_sem])
  have c4_1_5 : w5.cell? ⟨w4.heap.size, 1, none⟩ = some (.int .i64 av) := hB5.keep (by first | (simp; done) | (simp; omega)) (by simp [go_sem])
  clear c0_0_4 c0_1_4 c1_0_4 c1_1_4 c2_0_4 c2_1_4 c3_0_4 c3_1_4 l0_4 l1_4 l2_4 l3_4
  go_wp2_with fail
  refine (rodd_any false av _).mono ?_
  rw [HO.out]
  rintro e w6 ⟨rfl, hB6⟩
  have hz6 := hB6.size
  simp at hz6
  have l0_6 : w.heap.size < w6.heap.size := by omega
  have l1_6 : w1.heap.size < w6.heap.size := by omega
  have l2_6 : w2.heap.size < w6.heap.size := by omega
  have l3_6 : w3.heap.size < w6.heap.size := by omega
  have l4_6 : w4.heap.size < w6.heap.size := by omega
  have l5_6 : w5.heap.size < w6.heap.size := by omega
  have c0_0_6 : w6.cell? ⟨w.heap.size, 0, none⟩ = some (.bool false) := hB6.keep (by first | (simp; done) | (simp; omega)) (by simp [go_sem, l0_5, c0_0_5])
  have c0_1_6 : w6.cell? ⟨w.heap.size, 1, none⟩ = some (.int .i64 av) := hB6.keep (by first | (simp; done) | (simp; omega)) (by simp [go_sem, l0_5, c0_1_5])
  have c1_0_6 : w6.cell? ⟨w1.heap.size, 0, none⟩ = some (.bool false) := hB6.keep (by first | (simp; done) | (simp; omega)) (by simp [go_sem, l1_5, c1_0_5])
  have c1_1_6 : w6.cell? ⟨w1.heap.size, 1, none⟩ = some (.int .i64 1000000) := hB6.keep (by first | (simp; done) | (simp; omega)) (by simp [go_sem, l1_5, c1_1_5])
  have c2_0_6 : w6.cell? ⟨w2.heap.size, 0, none⟩ = some (.bool false) := hB6.keep (by first | (simp; done) | (simp; omega)) (by simp [go_sem, l2_5, c2_0_5])
  have c2_1_6 : w6.cell? ⟨w2.heap.size, 1, none⟩ = some (.int .i64 av) := hB6.keep (by first | (simp; done) | (simp; omega)) (by simp [go_sem, l2_5, c2_1_5])
  have c3_0_6 : w6.cell? ⟨w3.heap.size, 0, none⟩ = some (.bool false) := hB6.keep (by first | (simp; done) | (simp; omega)) (by simp [go_sem, l3_5, c3_0_5])
  have c3_1_6 : w6.cell? ⟨w3.heap.size, 1, none⟩ = some (.int .i64 av) := hB6.keep (by first | (simp; done) | (simp; omega)) (by simp [go_sem, l3_5, c3_1_5])
  have c4_0_6 : w6.cell? ⟨w4.heap.size, 0, none⟩ = some (.bool false) := hB6.keep (by first | (simp; done) | (simp; omega)) (by simp [go_sem, l4_5, c4_0_5])
  have c4_1_6 : w6.cell? ⟨w4.heap.size, 1, none⟩ = some (.int .i64 av) := hB6.keep (by first | (simp; done) | (simp; omega)) (by simp [go_sem, l4_5, c4_1_5])
  have c5_0_6 : w6.cell? ⟨w5.heap.size, 0, none⟩ = some (.bool false) := hB6.keep (by first | (simp; done) | (simp; omega)) (by simp [go_sem])
  have c5_1_6 : w6.cell? ⟨w5.heap.size, 1, none⟩ = some (.int .i64 0) := hB6.keep (by first | (simp; done) | (simp; omega)) (by simp [go_sem])
  clear c0_0_5 c0_1_5 c1_0_5 c1_1_5 c2_0_5 c2_1_5 c3_0_5 c3_1_5 c4_0_5 c4_1_5 l0_5 l1_5 l2_5 l3_5 l4_5
  go_wp2_with fail
  have hX : Ext w w6 := by
    repeat (first | exact Ext.refl _ | refine Ext.alloc ?_ _ | refine (Ext.trans ?_ (by assumption)))
  clear hB1 hB2 hB3 hB4 hB5 hB6 hz1 hz2 hz3 hz4 hz5 hz6 E1 E2 E3 E4 HO G
  have E5' := E5.out
  have E6' := E6.out
  clear E5 E6
  go_region_held3 (fun w' => Ext w w' ∧ w6.heap.size ≤ w'.heap.size ∧ ∀ b o, b < w6.heap.size → w'.cell? ⟨b, o, none⟩ = w6.cell? ⟨b, o, none⟩)
    (first | exact ⟨hX, Nat.le_refl _, fun b o h => rfl⟩ | exact ⟨hX.drew, Nat.le_refl _, fun b o h => rfl⟩ | (have hH := ‹Ext w _ ∧ w6.heap.size ≤ (World.heap _).size ∧ _›; exact ⟨hH.1.trans hBr, Nat.le_trans hH.2.1 hBr.size, fun b o h => (hBr.cells b o (Nat.lt_of_lt_of_le h hH.2.1)).trans (hH.2.2 b o h)⟩))
    (first | (go_at_call 29; refine (neg_any _ _ _).mono ?_; rintro e wr ⟨rfl, hBr⟩))
  go_wp2_with fail
  go_ret
  refine ⟨rfl, ?_⟩
  repeat (first | exact Ext.refl _ | refine Ext.set ?_ (by dsimp only; omega) _ | refine Ext.alloc ?_ _ | refine Ext.drew ?_ | refine (Ext.trans ?_ (by assumption)))
theorem units_walk (an : Bool) (av : Int) (w : World) (G : Glob w) :
    Calls Tryd.prog 6 #[.agg #[.bool an, .int .i64 av]] w fun e w' => e = .returned (.bool true) ∧ Ext w w' := by
  cases ho : oddB an av with
  | true => exact units_odd an av w G ho
  | false =>
    have ho' := ho
    obtain ⟨rfl, _, _⟩ := oddB_false ho'
    exact units_ok av w G ho
end Go.Proofs.YtcdpjgdaofgpcaaDoor
