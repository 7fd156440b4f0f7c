/-
  The walk of recensionlaw03.DeciBack: it returns true, whatever it is given. Helper lemmas; the statement itself is proved in the row's text.
-/
import Derived.Test.YtcdpjgdaofgpcaaDoorDeciAwake
import Derived.Test.YtcdpjgdaofgpcaaDoorTextLaw
import Derived.Test.YtcdpjgdaofgpcaaDoorRef3
namespace Go.Proofs.YtcdpjgdaofgpcaaDoor
open Go.RowKit
set_option maxRecDepth 100000
set_option linter.unusedVariables false
set_option linter.unusedSimpArgs false

theorem textS_len (n : Bool) (v : Int) : (textS n v).length ≤ 40 := by
  unfold textS
  by_cases h : oddB n v = true
  · rw [if_pos h]; decide
  · rw [if_neg h]
    have h' : oddB n v = false := by simpa using h
    obtain ⟨_, h1, h2⟩ := oddB_false h'
    have hb : (bodyS v.natAbs).length ≤ 30 := by
      unfold bodyS
      have hd := dec_len (v.natAbs / 1000000) (by omega)
      have hp : (placesS v.natAbs).length ≤ 6 := by
        unfold placesS Lib.trimRightS
        rw [List.length_reverse]
        refine Nat.le_trans (List.dropWhile_sublist _).length_le ?_
        rw [List.length_reverse, List.length_reverse, KText.low_length]; exact Nat.le_refl _
      split
      · omega
      · rw [List.length_append, List.length_append]; simp only [List.length_singleton]; omega
    split
    · rw [List.length_append]; simp only [List.length_singleton]; omega
    · omega

set_option maxHeartbeats 4000000 in
theorem back_odd (an : Bool) (av : Int) (w : World) (G : Glob w) (ho : oddB an av = true) :
    Calls Tryd.prog 5 #[.agg #[.bool an, .int .i64 av]] w fun e w' => e = .returned (.bool true) ∧ Ext w w' := by
  obtain ⟨t, et⟩ : ∃ t, bs (textS an av) = t := ⟨_, rfl⟩
  have hl : t.size ≤ 4294967280 := by rw [← et, bs_size]; have := textS_len an av; omega
  have hp : parseS t.data.toList = ((true, 0), 0) := by rw [← et, bs_list]; exact back_nan an av ho
  have ET := Lib.hid et; have EP := Lib.hid hp; have HO := Lib.hid ho
  clear et hp ho
  go_enter Tryd.func5, Tryd.ntmps5
  go_wp2_with fail
  refine (awake3 _ (G.alloc _)).mono ?_
  rintro e w1 ⟨rfl, hB1⟩
  have hz1 := hB1.size
  simp at hz1
  have l0_1 : w.heap.size < w1.heap.size := by omega
  have c0_0_1 : w1.cell? ⟨w.heap.size, 0, none⟩ = some (.bool an) := hB1.keep (by first | (simp; done) | (simp; omega)) (by simp [go_sem])
  have c0_1_1 : w1.cell? ⟨w.heap.size, 1, none⟩ = some (.int .i64 av) := hB1.keep (by first | (simp; done) | (simp; omega)) (by simp [go_sem])
  go_wp2_with fail
  refine (text_any an av _ ((G.alloc _).ext hB1)).mono ?_
  rw [ET.out]
  rintro e w2 ⟨rfl, hB2⟩
  have hz2 := hB2.size
  have l0_2 : w.heap.size < w2.heap.size := by omega
  have c0_0_2 : w2.cell? ⟨w.heap.size, 0, none⟩ = some (.bool an) := hB2.keep (by omega) c0_0_1
  have c0_1_2 : w2.cell? ⟨w.heap.size, 1, none⟩ = some (.int .i64 av) := hB2.keep (by omega) c0_1_1
  clear c0_0_1 c0_1_1 l0_1
  go_wp2_with fail
  refine (parse_any t _ (((G.alloc _).ext hB1).ext hB2) hl).mono ?_
  rw [EP.out]
  rintro e w3 ⟨rfl, hB3⟩
  have hz3 := hB3.size
  have l0_3 : w.heap.size < w3.heap.size := by omega
  have c0_0_3 : w3.cell? ⟨w.heap.size, 0, none⟩ = some (.bool an) := hB3.keep (by omega) c0_0_2
  have c0_1_3 : w3.cell? ⟨w.heap.size, 1, none⟩ = some (.int .i64 av) := hB3.keep (by omega) c0_1_2
  clear c0_0_2 c0_1_2 l0_2
  go_wp2_with fail
  refine (rodd_any an av _).mono ?_
  rw [HO.out]
  rintro e w4 ⟨rfl, hB4⟩
  have hz4 := hB4.size
  simp at hz4
  have l0_4 : w.heap.size < w4.heap.size := by omega
  have l1_4 : w3.heap.size < w4.heap.size := by omega
  have c0_0_4 : w4.cell? ⟨w.heap.size, 0, none⟩ = some (.bool an) := hB4.keep (by first | (simp; done) | (simp; omega)) (by simp [go_sem, l0_3, c0_0_3])
  have c0_1_4 : w4.cell? ⟨w.heap.size, 1, none⟩ = some (.int .i64 av) := hB4.keep (by first | (simp; done) | (simp; omega)) (by simp [go_sem, l0_3, c0_1_3])
  have c1_0_4 : w4.cell? ⟨w3.heap.size, 0, none⟩ = some (.bool true) := hB4.keep (by first | (simp; done) | (simp; omega)) (by simp [go_sem, l0_3])
  have c1_1_4 : w4.cell? ⟨w3.heap.size, 1, none⟩ = some (.int .i64 0) := hB4.keep (by first | (simp; done) | (simp; omega)) (by simp [go_sem, l0_3])
  clear c0_0_3 c0_1_3 l0_3
  go_wp2_with fail
  go_ret
  refine ⟨rfl, ?_⟩
  repeat (first | exact Ext.refl _ | refine Ext.set ?_ (by dsimp only; omega) _ | refine Ext.alloc ?_ _ | refine Ext.drew ?_ | refine (Ext.trans ?_ (by assumption)))
set_option maxHeartbeats 4000000 in
theorem back_okk (av : Int) (w : World) (G : Glob w) (ho : oddB false av = false) :
    Calls Tryd.prog 5 #[.agg #[.bool false, .int .i64 av]] w fun e w' => e = .returned (.bool true) ∧ Ext w w' := by
  obtain ⟨t, et⟩ : ∃ t, bs (textS false av) = t := ⟨_, rfl⟩
  have hl : t.size ≤ 4294967280 := by rw [← et, bs_size]; have := textS_len false av; omega
  have hp : parseS t.data.toList = ((false, av), 0) := by rw [← et, bs_list]; exact back_ok av ho
  have ET := Lib.hid et; have EP := Lib.hid hp; have HO := Lib.hid ho
  clear et hp ho
  go_enter Tryd.func5, Tryd.ntmps5
  go_wp2_with fail
  refine (awake3 _ (G.alloc _)).mono ?_
  rintro e w1 ⟨rfl, hB1⟩
  have hz1 := hB1.size
  simp at hz1
  have l0_1 : w.heap.size < w1.heap.size := by omega
  have c0_0_1 : w1.cell? ⟨w.heap.size, 0, none⟩ = some (.bool false) := hB1.keep (by first | (simp; done) | (simp; omega)) (by simp [go_sem])
  have c0_1_1 : w1.cell? ⟨w.heap.size, 1, none⟩ = some (.int .i64 av) := hB1.keep (by first | (simp; done) | (simp; omega)) (by simp [go_sem])
  go_wp2_with fail
  refine (text_any false av _ ((G.alloc _).ext hB1)).mono ?_
  rw [ET.out]
  rintro e w2 ⟨rfl, hB2⟩
  have hz2 := hB2.size
  have l0_2 : w.heap.size < w2.heap.size := by omega
  have c0_0_2 : w2.cell? ⟨w.heap.size, 0, none⟩ = some (.bool false) := hB2.keep (by omega) c0_0_1
  have c0_1_2 : w2.cell? ⟨w.heap.size, 1, none⟩ = some (.int .i64 av) := hB2.keep (by omega) c0_1_1
  clear c0_0_1 c0_1_1 l0_1
  go_wp2_with fail
  refine (parse_any t _ (((G.alloc _).ext hB1).ext hB2) hl).mono ?_
  rw [EP.out]
  rintro e w3 ⟨rfl, hB3⟩
  have hz3 := hB3.size
  have l0_3 : w.heap.size < w3.heap.size := by omega
  have c0_0_3 : w3.cell? ⟨w.heap.size, 0, none⟩ = some (.bool false) := hB3.keep (by omega) c0_0_2
  have c0_1_3 : w3.cell? ⟨w.heap.size, 1, none⟩ = some (.int .i64 av) := hB3.keep (by omega) c0_1_2
  clear c0_0_2 c0_1_2 l0_2
  go_wp2_with fail
  refine (rodd_any false av _).mono ?_
  rw [HO.out]
  rintro e w4 ⟨rfl, hB4⟩
  have hz4 := hB4.size
  simp at hz4
  have l0_4 : w.heap.size < w4.heap.size := by omega
  have l1_4 : w3.heap.size < w4.heap.size := by omega
  have c0_0_4 : w4.cell? ⟨w.heap.size, 0, none⟩ = some (.bool false) := hB4.keep (by first | (simp; done) | (simp; omega)) (by simp [go_sem, l0_3, c0_0_3])
  have c0_1_4 : w4.cell? ⟨w.heap.size, 1, none⟩ = some (.int .i64 av) := hB4.keep (by first | (simp; done) | (simp; omega)) (by simp [go_sem, l0_3, c0_1_3])
  have c1_0_4 : w4.cell? ⟨w3.heap.size, 0, none⟩ = some (.bool false) := hB4.keep (by first | (simp; done) | (simp; omega)) (by simp [go_sem, l0_3])
  have c1_1_4 : w4.cell? ⟨w3.heap.size, 1, none⟩ = some (.int .i64 av) := hB4.keep (by first | (simp; done) | (simp; omega)) (by simp [go_sem, l0_3])
  clear c0_0_3 c0_1_3 l0_3
  go_wp2_with fail
  refine (rodd_any false av _).mono ?_
  rw [HO.out]
  rintro e w5 ⟨rfl, hB5⟩
  have hz5 := hB5.size
  have l0_5 : w.heap.size < w5.heap.size := by omega
  have l1_5 : w3.heap.size < w5.heap.size := by omega
  have c0_0_5 : w5.cell? ⟨w.heap.size, 0, none⟩ = some (.bool false) := hB5.keep (by omega) c0_0_4
  have c0_1_5 : w5.cell? ⟨w.heap.size, 1, none⟩ = some (.int .i64 av) := hB5.keep (by omega) c0_1_4
  have c1_0_5 : w5.cell? ⟨w3.heap.size, 0, none⟩ = some (.bool false) := hB5.keep (by omega) c1_0_4
  have c1_1_5 : w5.cell? ⟨w3.heap.size, 1, none⟩ = some (.int .i64 av) := hB5.keep (by omega) c1_1_4
  clear c0_0_4 c0_1_4 c1_0_4 c1_1_4 l0_4 l1_4
  go_wp2_with fail
  go_ret
  refine ⟨rfl, ?_⟩
  repeat (first | exact Ext.refl _ | refine Ext.set ?_ (by dsimp only; omega) _ | refine Ext.alloc ?_ _ | refine Ext.drew ?_ | refine (Ext.trans ?_ (by assumption)))
theorem back_walk (an : Bool) (av : Int) (w : World) (G : Glob w) :
    Calls Tryd.prog 5 #[.agg #[.bool an, .int .i64 av]] w fun e w' => e = .returned (.bool true) ∧ Ext w w' := by
  cases ho : oddB an av with
  | true => exact back_odd an av w G ho
  | false =>
    have ho' := ho
    obtain ⟨rfl, _, _⟩ := oddB_false ho'
    exact back_okk av w G ho
end Go.Proofs.YtcdpjgdaofgpcaaDoor
