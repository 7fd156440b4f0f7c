/-
  recensionlaw24.FuncsNumbers tells true. Helper lemmas; no statement of the seat is proved here.
-/
import Derived.Test.YtcdehcclkhmbiaaGreatDoorFAwake
import Derived.Test.YtcdehcclkhmbiaaGreatDoorRef3
namespace Go.Proofs.YtcdehcclkhmbiaaGreatDoor
open Go.RowKit
set_option maxRecDepth 100000
set_option linter.unusedVariables false
set_option linter.unusedSimpArgs false

theorem floor_of (v : Int) (h : oddB false v = false) : one false v (fitS (floorV v)) = ((false, floorV v), 0) := by
  unfold one fitS
  rw [h]
  have h2 : ¬ (1000000000000000 < floorV v ∨ floorV v < -1000000000000000) := by
    unfold oddB at h; simp at h; unfold floorV; omega
  rw [if_neg (by decide), if_neg h2]
theorem ceil_of (v : Int) (h : oddB false v = false) : ceilS false v = ((false, ceilV v), 0) := by
  unfold ceilS one fitS
  rw [h]
  have h2 : ¬ (1000000000000000 < ceilV v ∨ ceilV v < -1000000000000000) := by
    unfold oddB at h; simp at h; unfold ceilV floorV; omega
  rw [if_neg (by decide), if_neg h2]
theorem round_of (v : Int) (h : oddB false v = false) : roundS false v = ((false, floorV (v + 500000)), 0) := by
  unfold roundS one fitS
  rw [h]
  have h2 : ¬ (1000000000000000 < floorV (v + 500000) ∨ floorV (v + 500000) < -1000000000000000) := by
    unfold oddB at h; simp at h; unfold floorV; omega
  rw [if_neg (by decide), if_neg h2]
theorem round_or (v : Int) : floorV (v + 500000) = floorV v ∨ floorV (v + 500000) = ceilV v := by unfold ceilV floorV; omega
theorem floor_not (v : Int) : lessS false false v (floorV v) = false := by
  unfold lessS floorV; rw [decide_eq_false (p := v < v - v % 1000000) (by omega), Bool.and_false]
theorem ceil_not (v : Int) : lessS false false (ceilV v) v = false := by
  unfold lessS ceilV floorV; rw [decide_eq_false (p := -(-v - -v % 1000000) < v) (by omega), Bool.and_false]

set_option maxHeartbeats 8000000 in
theorem numbers_a (v F C : Int) (w : World) (G : Glob w) (U : GlobU w) (h : oddB false v = false)
    (hF : one false v (fitS (floorV v)) = ((false, F), 0)) (hC : ceilS false v = ((false, C), 0)) (hR : roundS false v = ((false, F), 0))
    (hlF : lessS false false v F = false) (hlC : lessS false false C v = false) :
    Calls Tryz.prog 6 #[.agg #[.bool false, .int .i64 v]] w fun e w' => e = .returned (.bool true) ∧ Ext w w' := by
  have hP := back_ok v h
  have hTL := textS_len false v
  obtain ⟨T, hT⟩ : ∃ T, textS false v = T := ⟨_, rfl⟩
  have HSTR := Lib.hid fun W ab cp G' => c_string false v ab cp W G'
  rw [hT] at hP HSTR hTL
  have HNUM := Lib.hid fun W ab cp G' => c_number T false v (by omega) hP ab cp W G'
  have HFL := Lib.hid (c_floor_ok false false v F hF)
  have HCE := Lib.hid (c_ceiling_ok false false v C hC)
  have HRO := Lib.hid (c_round_ok false false v F hR)
  have HL1 := Lib.hid fun W => less_any false false v F W
  have HL2 := Lib.hid fun W => less_any false false C v W
  rw [hlF] at HL1
  rw [hlC] at HL2
  have HO := Lib.hid fun W => rodd_any false v W
  rw [h] at HO
  have U := Lib.hid U
  have G := Lib.hid G
  clear hP hT hF hC hR hlF hlC h hTL
  go_enter Tryz.func6, Tryz.ntmps6
  go_wp2_with fail
  refine (awake_any _ (G.out.alloc _) (U.out.ext ((Ext.refl w).alloc _))).mono ?_
  rintro e w1 ⟨rfl, hB1⟩
  have hz1 := hB1.size
  simp at hz1
  have l0_1 : w.heap.size < w1.heap.size := by omega
  have c0_0_1 : w1.cell? ⟨w.heap.size, 0, none⟩ = some (.bool false) := hB1.keep (by first | (simp; done) | (simp; omega)) (by simp [go_sem])
  have c0_1_1 : w1.cell? ⟨w.heap.size, 1, none⟩ = some (.int .i64 v) := hB1.keep (by first | (simp; done) | (simp; omega)) (by simp [go_sem])
  go_wp2_with fail
  refine (HO.out _).mono ?_
  rintro e w2 ⟨rfl, hB2⟩
  have hz2 := hB2.size
  have l0_2 : w.heap.size < w2.heap.size := by omega
  have c0_0_2 : w2.cell? ⟨w.heap.size, 0, none⟩ = some (.bool false) := hB2.keep (by omega) c0_0_1
  have c0_1_2 : w2.cell? ⟨w.heap.size, 1, none⟩ = some (.int .i64 v) := hB2.keep (by omega) c0_1_1
  clear c0_0_1 c0_1_1 l0_1
  go_wp2_with fail
  refine (HSTR.out _ w2.heap.size 1 (G.out.ext (by repeat (first | exact Ext.refl _ | refine Ext.alloc ?_ _ | refine Ext.set ?_ (by dsimp only; omega) _ | refine (Ext.trans ?_ (by assumption))))) (arg_lit _ _ 0 _ _ _ _ _ rfl rfl rfl rfl rfl rfl)).mono ?_
  rintro e w3 ⟨rfl, hB3⟩
  have hz3 := hB3.size
  simp at hz3
  have l0_3 : w.heap.size < w3.heap.size := by omega
  have l1_3 : w2.heap.size < w3.heap.size := by omega
  have c0_0_3 : w3.cell? ⟨w.heap.size, 0, none⟩ = some (.bool false) := hB3.keep (by first | (simp; done) | (simp; omega)) (by simp [go_sem, l0_2, c0_0_2])
  have c0_1_3 : w3.cell? ⟨w.heap.size, 1, none⟩ = some (.int .i64 v) := hB3.keep (by first | (simp; done) | (simp; omega)) (by simp [go_sem, l0_2, c0_1_2])
  have c1_0_3 : w3.cell? ⟨w2.heap.size, 0, none⟩ = some (.int .i64 3) := hB3.keep (by first | (simp; done) | (simp; omega)) (by simp [go_sem, l0_2])
  have c1_1_3 : w3.cell? ⟨w2.heap.size, 1, none⟩ = some (.slice none 0 0) := hB3.keep (by first | (simp; done) | (simp; omega)) (by simp [go_sem, l0_2])
  have c1_2_3 : w3.cell? ⟨w2.heap.size, 2, none⟩ = some (.bool false) := hB3.keep (by first | (simp; done) | (simp; omega)) (by simp [go_sem, l0_2])
  have c1_3_3 : w3.cell? ⟨w2.heap.size, 3, none⟩ = some (.bool false) := hB3.keep (by first | (simp; done) | (simp; omega)) (by simp [go_sem, l0_2])
  have c1_4_3 : w3.cell? ⟨w2.heap.size, 4, none⟩ = some (.int .i64 v) := hB3.keep (by first | (simp; done) | (simp; omega)) (by simp [go_sem, l0_2])
  have c1_5_3 : w3.cell? ⟨w2.heap.size, 5, none⟩ = some (.string ⟨#[]⟩) := hB3.keep (by first | (simp; done) | (simp; omega)) (by simp [go_sem, l0_2])
  clear c0_0_2 c0_1_2 l0_2
  go_wp2_with fail
  refine (ltext_any (bs T) _).mono ?_
  rintro e w4 ⟨rfl, hB4⟩
  have hz4 := hB4.size
  simp at hz4
  have l0_4 : w.heap.size < w4.heap.size := by omega
  have l1_4 : w2.heap.size < w4.heap.size := by omega
  have l2_4 : w3.heap.size < w4.heap.size := by omega
  have c0_0_4 : w4.cell? ⟨w.heap.size, 0, none⟩ = some (.bool false) := hB4.keep (by first | (simp; done) | (simp; omega)) (by simp [go_sem, l0_3, l1_3, c0_0_3])
  have c0_1_4 : w4.cell? ⟨w.heap.size, 1, none⟩ = some (.int .i64 v) := hB4.keep (by first | (simp; done) | (simp; omega)) (by simp [go_sem, l0_3, l1_3, c0_1_3])
  have c1_0_4 : w4.cell? ⟨w2.heap.size, 0, none⟩ = some (.int .i64 3) := hB4.keep (by first | (simp; done) | (simp; omega)) (by simp [go_sem, l0_3, l1_3, c1_0_3])
  have c1_1_4 : w4.cell? ⟨w2.heap.size, 1, none⟩ = some (.slice none 0 0) := hB4.keep (by first | (simp; done) | (simp; omega)) (by simp [go_sem, l0_3, l1_3, c1_1_3])
  have c1_2_4 : w4.cell? ⟨w2.heap.size, 2, none⟩ = some (.bool false) := hB4.keep (by first | (simp; done) | (simp; omega)) (by simp [go_sem, l0_3, l1_3, c1_2_3])
  have c1_3_4 : w4.cell? ⟨w2.heap.size, 3, none⟩ = some (.bool false) := hB4.keep (by first | (simp; done) | (simp; omega)) (by simp [go_sem, l0_3, l1_3, c1_3_3])
  have c1_4_4 : w4.cell? ⟨w2.heap.size, 4, none⟩ = some (.int .i64 v) := hB4.keep (by first | (simp; done) | (simp; omega)) (by simp [go_sem, l0_3, l1_3, c1_4_3])
  have c1_5_4 : w4.cell? ⟨w2.heap.size, 5, none⟩ = some (.string ⟨#[]⟩) := hB4.keep (by first | (simp; done) | (simp; omega)) (by simp [go_sem, l0_3, l1_3, c1_5_3])
  have c2_0_4 : w4.cell? ⟨w3.heap.size, 0, none⟩ = some (.int .i64 4) := hB4.keep (by first | (simp; done) | (simp; omega)) (by simp [go_sem, l0_3, l1_3])
  have c2_1_4 : w4.cell? ⟨w3.heap.size, 1, none⟩ = some (.slice none 0 0) := hB4.keep (by first | (simp; done) | (simp; omega)) (by simp [go_sem, l0_3, l1_3])
  have c2_2_4 : w4.cell? ⟨w3.heap.size, 2, none⟩ = some (.bool false) := hB4.keep (by first | (simp; done) | (simp; omega)) (by simp [go_sem, l0_3, l1_3])
  have c2_3_4 : w4.cell? ⟨w3.heap.size, 3, none⟩ = some (.bool false) := hB4.keep (by first | (simp; done) | (simp; omega)) (by simp [go_sem, l0_3, l1_3])
  have c2_4_4 : w4.cell? ⟨w3.heap.size, 4, none⟩ = some (.int .i64 0) := hB4.keep (by first | (simp; done) | (simp; omega)) (by simp [go_sem, l0_3, l1_3])
  have c2_5_4 : w4.cell? ⟨w3.heap.size, 5, none⟩ = some (.string (bs T)) := hB4.keep (by first | (simp; done) | (simp; omega)) (by simp [go_sem, l0_3, l1_3])
  clear c0_0_3 c0_1_3 c1_0_3 c1_1_3 c1_2_3 c1_3_3 c1_4_3 c1_5_3 l0_3 l1_3
  go_wp2_with fail
  refine (HNUM.out _ w4.heap.size 1 (G.out.ext (by repeat (first | exact Ext.refl _ | refine Ext.alloc ?_ _ | refine Ext.set ?_ (by dsimp only; omega) _ | refine (Ext.trans ?_ (by assumption))))) (arg_lit _ _ 0 _ _ _ _ _ rfl rfl rfl rfl rfl rfl)).mono ?_
  rintro e w5 ⟨rfl, hB5⟩
  have hz5 := hB5.size
  simp at hz5
  have l0_5 : w.heap.size < w5.heap.size := by omega
  have l1_5 : w2.heap.size < w5.heap.size := by omega
  have l2_5 : w3.heap.size < w5.heap.size := by omega
  have l3_5 : w4.heap.size < w5.heap.size := by omega
  have c0_0_5 : w5.cell? ⟨w.heap.size, 0, none⟩ = some (.bool false) := hB5.keep (by first | (simp; done) | (simp; omega)) (by simp [go_sem, l0_4, l1_4, l2_4, c0_0_4])
  have c0_1_5 : w5.cell? ⟨w.heap.size, 1, none⟩ = some (.int .i64 v) := hB5.keep (by first | (simp; done) | (simp; omega)) (by simp [go_sem, l0_4, l1_4, l2_4, c0_1_4])
  have c1_0_5 : w5.cell? ⟨w2.heap.size, 0, none⟩ = some (.int .i64 3) := hB5.keep (by first | (simp; done) | (simp; omega)) (by simp [go_sem, l0_4, l1_4, l2_4, c1_0_4])
  have c1_1_5 : w5.cell? ⟨w2.heap.size, 1, none⟩ = some (.slice none 0 0) := hB5.keep (by first | (simp; done) | (simp; omega)) (by simp [go_sem, l0_4, l1_4, l2_4, c1_1_4])
  have c1_2_5 : w5.cell? ⟨w2.heap.size, 2, none⟩ = some (.bool false) := hB5.keep (by first | (simp; done) | (simp; omega)) (by simp [go_sem, l0_4, l1_4, l2_4, c1_2_4])
  have c1_3_5 : w5.cell? ⟨w2.heap.size, 3, none⟩ = some (.bool false) := hB5.keep (by first | (simp; done) | (simp; omega)) (by simp [go_sem, l0_4, l1_4, l2_4, c1_3_4])
  have c1_4_5 : w5.cell? ⟨w2.heap.size, 4, none⟩ = some (.int .i64 v) := hB5.keep (by first | (simp; done) | (simp; omega)) (by simp [go_sem, l0_4, l1_4, l2_4, c1_4_4])
  have c1_5_5 : w5.cell? ⟨w2.heap.size, 5, none⟩ = some (.string ⟨#[]⟩) := hB5.keep (by first | (simp; done) | (simp; omega)) (by simp [go_sem, l0_4, l1_4, l2_4, c1_5_4])
  have c2_0_5 : w5.cell? ⟨w3.heap.size, 0, none⟩ = some (.int .i64 4) := hB5.keep (by first | (simp; done) | (simp; omega)) (by simp [go_sem, l0_4, l1_4, l2_4, c2_0_4])
  have c2_1_5 : w5.cell? ⟨w3.heap.size, 1, none⟩ = some (.slice none 0 0) := hB5.keep (by first | (simp; done) | (simp; omega)) (by simp [go_sem, l0_4, l1_4, l2_4, c2_1_4])
  have c2_2_5 : w5.cell? ⟨w3.heap.size, 2, none⟩ = some (.bool false) := hB5.keep (by first | (simp; done) | (simp; omega)) (by simp [go_sem, l0_4, l1_4, l2_4, c2_2_4])
  have c2_3_5 : w5.cell? ⟨w3.heap.size, 3, none⟩ = some (.bool false) := hB5.keep (by first | (simp; done) | (simp; omega)) (by simp [go_sem, l0_4, l1_4, l2_4, c2_3_4])
  have c2_4_5 : w5.cell? ⟨w3.heap.size, 4, none⟩ = some (.int .i64 0) := hB5.keep (by first | (simp; done) | (simp; omega)) (by simp [go_sem, l0_4, l1_4, l2_4, c2_4_4])
  have c2_5_5 : w5.cell? ⟨w3.heap.size, 5, none⟩ = some (.string (bs T)) := hB5.keep (by first | (simp; done) | (simp; omega)) (by simp [go_sem, l0_4, l1_4, l2_4, c2_5_4])
  have c3_0_5 : w5.cell? ⟨w4.heap.size, 0, none⟩ = some (.int .i64 4) := hB5.keep (by first | (simp; done) | (simp; omega)) (by simp [go_sem, l0_4, l1_4, l2_4])
  have c3_1_5 : w5.cell? ⟨w4.heap.size, 1, none⟩ = some (.slice none 0 0) := hB5.keep (by first | (simp; done) | (simp; omega)) (by simp [go_sem, l0_4, l1_4, l2_4])
  have c3_2_5 : w5.cell? ⟨w4.heap.size, 2, none⟩ = some (.bool false) := hB5.keep (by first | (simp; done) | (simp; omega)) (by simp [go_sem, l0_4, l1_4, l2_4])
  have c3_3_5 : w5.cell? ⟨w4.heap.size, 3, none⟩ = some (.bool false) := hB5.keep (by first | (simp; done) | (simp; omega)) (by simp [go_sem, l0_4, l1_4, l2_4])
  have c3_4_5 : w5.cell? ⟨w4.heap.size, 4, none⟩ = some (.int .i64 0) := hB5.keep (by first | (simp; done) | (simp; omega)) (by simp [go_sem, l0_4, l1_4, l2_4])
  have c3_5_5 : w5.cell? ⟨w4.heap.size, 5, none⟩ = some (.string (bs T)) := hB5.keep (by first | (simp; done) | (simp; omega)) (by simp [go_sem, l0_4, l1_4, l2_4])
  clear c0_0_4 c0_1_4 c1_0_4 c1_1_4 c1_2_4 c1_3_4 c1_4_4 c1_5_4 c2_0_4 c2_1_4 c2_2_4 c2_3_4 c2_4_4 c2_5_4 l0_4 l1_4 l2_4
  go_wp2_with fail
  obtain ⟨w6, hW6⟩ : ∃ wz, (w5.alloc (.cells #[.int .i64 3, .slice none 0 0, .bool false, .bool false, .int .i64 v, .string ⟨#[]⟩] 28)) = wz := ⟨_, rfl⟩
  rw [hW6]
  have hB6 : Ext (w5.alloc (.cells #[.int .i64 3, .slice none 0 0, .bool false, .bool false, .int .i64 v, .string ⟨#[]⟩] 28)) w6 := by rw [hW6]; exact Ext.refl _
  clear hW6
  have hz6 := hB6.size
  simp at hz6
  have l0_6 : w.heap.size < w6.heap.size := by omega
  have l1_6 : w2.heap.size < w6.heap.size := by omega
  have l2_6 : w3.heap.size < w6.heap.size := by omega
  have l3_6 : w4.heap.size < w6.heap.size := by omega
  have l4_6 : w5.heap.size < w6.heap.size := by omega
  have c0_0_6 : w6.cell? ⟨w.heap.size, 0, none⟩ = some (.bool false) := hB6.keep (by first | (simp; done) | (simp; omega)) (by simp [go_sem, l0_5, l1_5, l2_5, l3_5, c0_0_5])
  have c0_1_6 : w6.cell? ⟨w.heap.size, 1, none⟩ = some (.int .i64 v) := hB6.keep (by first | (simp; done) | (simp; omega)) (by simp [go_sem, l0_5, l1_5, l2_5, l3_5, c0_1_5])
  have c1_0_6 : w6.cell? ⟨w2.heap.size, 0, none⟩ = some (.int .i64 3) := hB6.keep (by first | (simp; done) | (simp; omega)) (by simp [go_sem, l0_5, l1_5, l2_5, l3_5, c1_0_5])
  have c1_1_6 : w6.cell? ⟨w2.heap.size, 1, none⟩ = some (.slice none 0 0) := hB6.keep (by first | (simp; done) | (simp; omega)) (by simp [go_sem, l0_5, l1_5, l2_5, l3_5, c1_1_5])
  have c1_2_6 : w6.cell? ⟨w2.heap.size, 2, none⟩ = some (.bool false) := hB6.keep (by first | (simp; done) | (simp; omega)) (by simp [go_sem, l0_5, l1_5, l2_5, l3_5, c1_2_5])
  have c1_3_6 : w6.cell? ⟨w2.heap.size, 3, none⟩ = some (.bool false) := hB6.keep (by first | (simp; done) | (simp; omega)) (by simp [go_sem, l0_5, l1_5, l2_5, l3_5, c1_3_5])
  have c1_4_6 : w6.cell? ⟨w2.heap.size, 4, none⟩ = some (.int .i64 v) := hB6.keep (by first | (simp; done) | (simp; omega)) (by simp [go_sem, l0_5, l1_5, l2_5, l3_5, c1_4_5])
  have c1_5_6 : w6.cell? ⟨w2.heap.size, 5, none⟩ = some (.string ⟨#[]⟩) := hB6.keep (by first | (simp; done) | (simp; omega)) (by simp [go_sem, l0_5, l1_5, l2_5, l3_5, c1_5_5])
  have c2_0_6 : w6.cell? ⟨w3.heap.size, 0, none⟩ = some (.int .i64 4) := hB6.keep (by first | (simp; done) | (simp; omega)) (by simp [go_sem, l0_5, l1_5, l2_5, l3_5, c2_0_5])
  have c2_1_6 : w6.cell? ⟨w3.heap.size, 1, none⟩ = some (.slice none 0 0) := hB6.keep (by first | (simp; done) | (simp; omega)) (by simp [go_sem, l0_5, l1_5, l2_5, l3_5, c2_1_5])
  have c2_2_6 : w6.cell? ⟨w3.heap.size, 2, none⟩ = some (.bool false) := hB6.keep (by first | (simp; done) | (simp; omega)) (by simp [go_sem, l0_5, l1_5, l2_5, l3_5, c2_2_5])
  have c2_3_6 : w6.cell? ⟨w3.heap.size, 3, none⟩ = some (.bool false) := hB6.keep (by first | (simp; done) | (simp; omega)) (by simp [go_sem, l0_5, l1_5, l2_5, l3_5, c2_3_5])
  have c2_4_6 : w6.cell? ⟨w3.heap.size, 4, none⟩ = some (.int .i64 0) := hB6.keep (by first | (simp; done) | (simp; omega)) (by simp [go_sem, l0_5, l1_5, l2_5, l3_5, c2_4_5])
  have c2_5_6 : w6.cell? ⟨w3.heap.size, 5, none⟩ = some (.string (bs T)) := hB6.keep (by first | (simp; done) | (simp; omega)) (by simp [go_sem, l0_5, l1_5, l2_5, l3_5, c2_5_5])
  have c3_0_6 : w6.cell? ⟨w4.heap.size, 0, none⟩ = some (.int .i64 4) := hB6.keep (by first | (simp; done) | (simp; omega)) (by simp [go_sem, l0_5, l1_5, l2_5, l3_5, c3_0_5])
  have c3_1_6 : w6.cell? ⟨w4.heap.size, 1, none⟩ = some (.slice none 0 0) := hB6.keep (by first | (simp; done) | (simp; omega)) (by simp [go_sem, l0_5, l1_5, l2_5, l3_5, c3_1_5])
  have c3_2_6 : w6.cell? ⟨w4.heap.size, 2, none⟩ = some (.bool false) := hB6.keep (by first | (simp; done) | (simp; omega)) (by simp [go_sem, l0_5, l1_5, l2_5, l3_5, c3_2_5])
  have c3_3_6 : w6.cell? ⟨w4.heap.size, 3, none⟩ = some (.bool false) := hB6.keep (by first | (simp; done) | (simp; omega)) (by simp [go_sem, l0_5, l1_5, l2_5, l3_5, c3_3_5])
  have c3_4_6 : w6.cell? ⟨w4.heap.size, 4, none⟩ = some (.int .i64 0) := hB6.keep (by first | (simp; done) | (simp; omega)) (by simp [go_sem, l0_5, l1_5, l2_5, l3_5, c3_4_5])
  have c3_5_6 : w6.cell? ⟨w4.heap.size, 5, none⟩ = some (.string (bs T)) := hB6.keep (by first | (simp; done) | (simp; omega)) (by simp [go_sem, l0_5, l1_5, l2_5, l3_5, c3_5_5])
  have c4_0_6 : w6.cell? ⟨w5.heap.size, 0, none⟩ = some (.int .i64 3) := hB6.keep (by first | (simp; done) | (simp; omega)) (by simp [go_sem, l0_5, l1_5, l2_5, l3_5])
  have c4_1_6 : w6.cell? ⟨w5.heap.size, 1, none⟩ = some (.slice none 0 0) := hB6.keep (by first | (simp; done) | (simp; omega)) (by simp [go_sem, l0_5, l1_5, l2_5, l3_5])
  have c4_2_6 : w6.cell? ⟨w5.heap.size, 2, none⟩ = some (.bool false) := hB6.keep (by first | (simp; done) | (simp; omega)) (by simp [go_sem, l0_5, l1_5, l2_5, l3_5])
  have c4_3_6 : w6.cell? ⟨w5.heap.size, 3, none⟩ = some (.bool false) := hB6.keep (by first | (simp; done) | (simp; omega)) (by simp [go_sem, l0_5, l1_5, l2_5, l3_5])
  have c4_4_6 : w6.cell? ⟨w5.heap.size, 4, none⟩ = some (.int .i64 v) := hB6.keep (by first | (simp; done) | (simp; omega)) (by simp [go_sem, l0_5, l1_5, l2_5, l3_5])
  have c4_5_6 : w6.cell? ⟨w5.heap.size, 5, none⟩ = some (.string ⟨#[]⟩) := hB6.keep (by first | (simp; done) | (simp; omega)) (by simp [go_sem, l0_5, l1_5, l2_5, l3_5])
  clear c0_0_5 c0_1_5 c1_0_5 c1_1_5 c1_2_5 c1_3_5 c1_4_5 c1_5_5 c2_0_5 c2_1_5 c2_2_5 c2_3_5 c2_4_5 c2_5_5 c3_0_5 c3_1_5 c3_2_5 c3_3_5 c3_4_5 c3_5_5 l0_5 l1_5 l2_5 l3_5
  go_wp2_with fail
  refine (HFL.out w2.heap.size 1 _ ⟨l1_6, c1_0_6, c1_1_6, c1_2_6, c1_3_6, c1_4_6, c1_5_6⟩).mono ?_
  rintro e w7 ⟨rfl, hB7⟩
  have hz7 := hB7.size
  have l0_7 : w.heap.size < w7.heap.size := by omega
  have l1_7 : w2.heap.size < w7.heap.size := by omega
  have l2_7 : w3.heap.size < w7.heap.size := by omega
  have l3_7 : w4.heap.size < w7.heap.size := by omega
  have l4_7 : w5.heap.size < w7.heap.size := by omega
  have c0_0_7 : w7.cell? ⟨w.heap.size, 0, none⟩ = some (.bool false) := hB7.keep (by omega) c0_0_6
  have c0_1_7 : w7.cell? ⟨w.heap.size, 1, none⟩ = some (.int .i64 v) := hB7.keep (by omega) c0_1_6
  have c1_0_7 : w7.cell? ⟨w2.heap.size, 0, none⟩ = some (.int .i64 3) := hB7.keep (by omega) c1_0_6
  have c1_1_7 : w7.cell? ⟨w2.heap.size, 1, none⟩ = some (.slice none 0 0) := hB7.keep (by omega) c1_1_6
  have c1_2_7 : w7.cell? ⟨w2.heap.size, 2, none⟩ = some (.bool false) := hB7.keep (by omega) c1_2_6
  have c1_3_7 : w7.cell? ⟨w2.heap.size, 3, none⟩ = some (.bool false) := hB7.keep (by omega) c1_3_6
  have c1_4_7 : w7.cell? ⟨w2.heap.size, 4, none⟩ = some (.int .i64 v) := hB7.keep (by omega) c1_4_6
  have c1_5_7 : w7.cell? ⟨w2.heap.size, 5, none⟩ = some (.string ⟨#[]⟩) := hB7.keep (by omega) c1_5_6
  have c2_0_7 : w7.cell? ⟨w3.heap.size, 0, none⟩ = some (.int .i64 4) := hB7.keep (by omega) c2_0_6
  have c2_1_7 : w7.cell? ⟨w3.heap.size, 1, none⟩ = some (.slice none 0 0) := hB7.keep (by omega) c2_1_6
  have c2_2_7 : w7.cell? ⟨w3.heap.size, 2, none⟩ = some (.bool false) := hB7.keep (by omega) c2_2_6
  have c2_3_7 : w7.cell? ⟨w3.heap.size, 3, none⟩ = some (.bool false) := hB7.keep (by omega) c2_3_6
  have c2_4_7 : w7.cell? ⟨w3.heap.size, 4, none⟩ = some (.int .i64 0) := hB7.keep (by omega) c2_4_6
  have c2_5_7 : w7.cell? ⟨w3.heap.size, 5, none⟩ = some (.string (bs T)) := hB7.keep (by omega) c2_5_6
  have c3_0_7 : w7.cell? ⟨w4.heap.size, 0, none⟩ = some (.int .i64 4) := hB7.keep (by omega) c3_0_6
  have c3_1_7 : w7.cell? ⟨w4.heap.size, 1, none⟩ = some (.slice none 0 0) := hB7.keep (by omega) c3_1_6
  have c3_2_7 : w7.cell? ⟨w4.heap.size, 2, none⟩ = some (.bool false) := hB7.keep (by omega) c3_2_6
  have c3_3_7 : w7.cell? ⟨w4.heap.size, 3, none⟩ = some (.bool false) := hB7.keep (by omega) c3_3_6
  have c3_4_7 : w7.cell? ⟨w4.heap.size, 4, none⟩ = some (.int .i64 0) := hB7.keep (by omega) c3_4_6
  have c3_5_7 : w7.cell? ⟨w4.heap.size, 5, none⟩ = some (.string (bs T)) := hB7.keep (by omega) c3_5_6
  have c4_0_7 : w7.cell? ⟨w5.heap.size, 0, none⟩ = some (.int .i64 3) := hB7.keep (by omega) c4_0_6
  have c4_1_7 : w7.cell? ⟨w5.heap.size, 1, none⟩ = some (.slice none 0 0) := hB7.keep (by omega) c4_1_6
  have c4_2_7 : w7.cell? ⟨w5.heap.size, 2, none⟩ = some (.bool false) := hB7.keep (by omega) c4_2_6
  have c4_3_7 : w7.cell? ⟨w5.heap.size, 3, none⟩ = some (.bool false) := hB7.keep (by omega) c4_3_6
  have c4_4_7 : w7.cell? ⟨w5.heap.size, 4, none⟩ = some (.int .i64 v) := hB7.keep (by omega) c4_4_6
  have c4_5_7 : w7.cell? ⟨w5.heap.size, 5, none⟩ = some (.string ⟨#[]⟩) := hB7.keep (by omega) c4_5_6
  clear c0_0_6 c0_1_6 c1_0_6 c1_1_6 c1_2_6 c1_3_6 c1_4_6 c1_5_6 c2_0_6 c2_1_6 c2_2_6 c2_3_6 c2_4_6 c2_5_6 c3_0_6 c3_1_6 c3_2_6 c3_3_6 c3_4_6 c3_5_6 c4_0_6 c4_1_6 c4_2_6 c4_3_6 c4_4_6 c4_5_6 l0_6 l1_6 l2_6 l3_6 l4_6
  go_wp2_with fail
  obtain ⟨w8, hW8⟩ : ∃ wz, (w7.alloc (.cells #[.int .i64 3, .slice none 0 0, .bool false, .bool false, .int .i64 F, .string ⟨#[]⟩] 28)) = wz := ⟨_, rfl⟩
  rw [hW8]
  have hB8 : Ext (w7.alloc (.cells #[.int .i64 3, .slice none 0 0, .bool false, .bool false, .int .i64 F, .string ⟨#[]⟩] 28)) w8 := by rw [hW8]; exact Ext.refl _
  clear hW8
  have hz8 := hB8.size
  simp at hz8
  have l0_8 : w.heap.size < w8.heap.size := by omega
  have l1_8 : w2.heap.size < w8.heap.size := by omega
  have l2_8 : w3.heap.size < w8.heap.size := by omega
  have l3_8 : w4.heap.size < w8.heap.size := by omega
  have l4_8 : w5.heap.size < w8.heap.size := by omega
  have l5_8 : w7.heap.size < w8.heap.size := by omega
  have c0_0_8 : w8.cell? ⟨w.heap.size, 0, none⟩ = some (.bool false) := hB8.keep (by first | (simp; done) | (simp; omega)) (by simp [go_sem, l0_7, l1_7, l2_7, l3_7, l4_7, c0_0_7])
  have c0_1_8 : w8.cell? ⟨w.heap.size, 1, none⟩ = some (.int .i64 v) := hB8.keep (by first | (simp; done) | (simp; omega)) (by simp [go_sem, l0_7, l1_7, l2_7, l3_7, l4_7, c0_1_7])
  have c1_0_8 : w8.cell? ⟨w2.heap.size, 0, none⟩ = some (.int .i64 3) := hB8.keep (by first | (simp; done) | (simp; omega)) (by simp [go_sem, l0_7, l1_7, l2_7, l3_7, l4_7, c1_0_7])
  have c1_1_8 : w8.cell? ⟨w2.heap.size, 1, none⟩ = some (.slice none 0 0) := hB8.keep (by first | (simp; done) | (simp; omega)) (by simp [go_sem, l0_7, l1_7, l2_7, l3_7, l4_7, c1_1_7])
  have c1_2_8 : w8.cell? ⟨w2.heap.size, 2, none⟩ = some (.bool false) := hB8.keep (by first | (simp; done) | (simp; omega)) (by simp [go_sem, l0_7, l1_7, l2_7, l3_7, l4_7, c1_2_7])
  have c1_3_8 : w8.cell? ⟨w2.heap.size, 3, none⟩ = some (.bool false) := hB8.keep (by first | (simp; done) | (simp; omega)) (by simp [go_sem, l0_7, l1_7, l2_7, l3_7, l4_7, c1_3_7])
  have c1_4_8 : w8.cell? ⟨w2.heap.size, 4, none⟩ = some (.int .i64 v) := hB8.keep (by first | (simp; done) | (simp; omega)) (by simp [go_sem, l0_7, l1_7, l2_7, l3_7, l4_7, c1_4_7])
  have c1_5_8 : w8.cell? ⟨w2.heap.size, 5, none⟩ = some (.string ⟨#[]⟩) := hB8.keep (by first | (simp; done) | (simp; omega)) (by simp [go_sem, l0_7, l1_7, l2_7, l3_7, l4_7, c1_5_7])
  have c2_0_8 : w8.cell? ⟨w3.heap.size, 0, none⟩ = some (.int .i64 4) := hB8.keep (by first | (simp; done) | (simp; omega)) (by simp [go_sem, l0_7, l1_7, l2_7, l3_7, l4_7, c2_0_7])
  have c2_1_8 : w8.cell? ⟨w3.heap.size, 1, none⟩ = some (.slice none 0 0) := hB8.keep (by first | (simp; done) | (simp; omega)) (by simp [go_sem, l0_7, l1_7, l2_7, l3_7, l4_7, c2_1_7])
  have c2_2_8 : w8.cell? ⟨w3.heap.size, 2, none⟩ = some (.bool false) := hB8.keep (by first | (simp; done) | (simp; omega)) (by simp [go_sem, l0_7, l1_7, l2_7, l3_7, l4_7, c2_2_7])
  have c2_3_8 : w8.cell? ⟨w3.heap.size, 3, none⟩ = some (.bool false) := hB8.keep (by first | (simp; done) | (simp; omega)) (by simp [go_sem, l0_7, l1_7, l2_7, l3_7, l4_7, c2_3_7])
  have c2_4_8 : w8.cell? ⟨w3.heap.size, 4, none⟩ = some (.int .i64 0) := hB8.keep (by first | (simp; done) | (simp; omega)) (by simp [go_sem, l0_7, l1_7, l2_7, l3_7, l4_7, c2_4_7])
  have c2_5_8 : w8.cell? ⟨w3.heap.size, 5, none⟩ = some (.string (bs T)) := hB8.keep (by first | (simp; done) | (simp; omega)) (by simp [go_sem, l0_7, l1_7, l2_7, l3_7, l4_7, c2_5_7])
  have c3_0_8 : w8.cell? ⟨w4.heap.size, 0, none⟩ = some (.int .i64 4) := hB8.keep (by first | (simp; done) | (simp; omega)) (by simp [go_sem, l0_7, l1_7, l2_7, l3_7, l4_7, c3_0_7])
  have c3_1_8 : w8.cell? ⟨w4.heap.size, 1, none⟩ = some (.slice none 0 0) := hB8.keep (by first | (simp; done) | (simp; omega)) (by simp [go_sem, l0_7, l1_7, l2_7, l3_7, l4_7, c3_1_7])
  have c3_2_8 : w8.cell? ⟨w4.heap.size, 2, none⟩ = some (.bool false) := hB8.keep (by first | (simp; done) | (simp; omega)) (by simp [go_sem, l0_7, l1_7, l2_7, l3_7, l4_7, c3_2_7])
  have c3_3_8 : w8.cell? ⟨w4.heap.size, 3, none⟩ = some (.bool false) := hB8.keep (by first | (simp; done) | (simp; omega)) (by simp [go_sem, l0_7, l1_7, l2_7, l3_7, l4_7, c3_3_7])
  have c3_4_8 : w8.cell? ⟨w4.heap.size, 4, none⟩ = some (.int .i64 0) := hB8.keep (by first | (simp; done) | (simp; omega)) (by simp [go_sem, l0_7, l1_7, l2_7, l3_7, l4_7, c3_4_7])
  have c3_5_8 : w8.cell? ⟨w4.heap.size, 5, none⟩ = some (.string (bs T)) := hB8.keep (by first | (simp; done) | (simp; omega)) (by simp [go_sem, l0_7, l1_7, l2_7, l3_7, l4_7, c3_5_7])
  have c4_0_8 : w8.cell? ⟨w5.heap.size, 0, none⟩ = some (.int .i64 3) := hB8.keep (by first | (simp; done) | (simp; omega)) (by simp [go_sem, l0_7, l1_7, l2_7, l3_7, l4_7, c4_0_7])
  have c4_1_8 : w8.cell? ⟨w5.heap.size, 1, none⟩ = some (.slice none 0 0) := hB8.keep (by first | (simp; done) | (simp; omega)) (by simp [go_sem, l0_7, l1_7, l2_7, l3_7, l4_7, c4_1_7])
  have c4_2_8 : w8.cell? ⟨w5.heap.size, 2, none⟩ = some (.bool false) := hB8.keep (by first | (simp; done) | (simp; omega)) (by simp [go_sem, l0_7, l1_7, l2_7, l3_7, l4_7, c4_2_7])
  have c4_3_8 : w8.cell? ⟨w5.heap.size, 3, none⟩ = some (.bool false) := hB8.keep (by first | (simp; done) | (simp; omega)) (by simp [go_sem, l0_7, l1_7, l2_7, l3_7, l4_7, c4_3_7])
  have c4_4_8 : w8.cell? ⟨w5.heap.size, 4, none⟩ = some (.int .i64 v) := hB8.keep (by first | (simp; done) | (simp; omega)) (by simp [go_sem, l0_7, l1_7, l2_7, l3_7, l4_7, c4_4_7])
  have c4_5_8 : w8.cell? ⟨w5.heap.size, 5, none⟩ = some (.string ⟨#[]⟩) := hB8.keep (by first | (simp; done) | (simp; omega)) (by simp [go_sem, l0_7, l1_7, l2_7, l3_7, l4_7, c4_5_7])
  have c5_0_8 : w8.cell? ⟨w7.heap.size, 0, none⟩ = some (.int .i64 3) := hB8.keep (by first | (simp; done) | (simp; omega)) (by simp [go_sem, l0_7, l1_7, l2_7, l3_7, l4_7])
  have c5_1_8 : w8.cell? ⟨w7.heap.size, 1, none⟩ = some (.slice none 0 0) := hB8.keep (by first | (simp; done) | (simp; omega)) (by simp [go_sem, l0_7, l1_7, l2_7, l3_7, l4_7])
  have c5_2_8 : w8.cell? ⟨w7.heap.size, 2, none⟩ = some (.bool false) := hB8.keep (by first | (simp; done) | (simp; omega)) (by simp [go_sem, l0_7, l1_7, l2_7, l3_7, l4_7])
  have c5_3_8 : w8.cell? ⟨w7.heap.size, 3, none⟩ = some (.bool false) := hB8.keep (by first | (simp; done) | (simp; omega)) (by simp [go_sem, l0_7, l1_7, l2_7, l3_7, l4_7])
  have c5_4_8 : w8.cell? ⟨w7.heap.size, 4, none⟩ = some (.int .i64 F) := hB8.keep (by first | (simp; done) | (simp; omega)) (by simp [go_sem, l0_7, l1_7, l2_7, l3_7, l4_7])
  have c5_5_8 : w8.cell? ⟨w7.heap.size, 5, none⟩ = some (.string ⟨#[]⟩) := hB8.keep (by first | (simp; done) | (simp; omega)) (by simp [go_sem, l0_7, l1_7, l2_7, l3_7, l4_7])
  clear c0_0_7 c0_1_7 c1_0_7 c1_1_7 c1_2_7 c1_3_7 c1_4_7 c1_5_7 c2_0_7 c2_1_7 c2_2_7 c2_3_7 c2_4_7 c2_5_7 c3_0_7 c3_1_7 c3_2_7 c3_3_7 c3_4_7 c3_5_7 c4_0_7 c4_1_7 c4_2_7 c4_3_7 c4_4_7 c4_5_7 l0_7 l1_7 l2_7 l3_7 l4_7
  go_wp2_with fail
  refine (HCE.out w2.heap.size 1 _ ⟨l1_8, c1_0_8, c1_1_8, c1_2_8, c1_3_8, c1_4_8, c1_5_8⟩).mono ?_
  rintro e w9 ⟨rfl, hB9⟩
  have hz9 := hB9.size
  have l0_9 : w.heap.size < w9.heap.size := by omega
  have l1_9 : w2.heap.size < w9.heap.size := by omega
  have l2_9 : w3.heap.size < w9.heap.size := by omega
  have l3_9 : w4.heap.size < w9.heap.size := by omega
  have l4_9 : w5.heap.size < w9.heap.size := by omega
  have l5_9 : w7.heap.size < w9.heap.size := by omega
  have c0_0_9 : w9.cell? ⟨w.heap.size, 0, none⟩ = some (.bool false) := hB9.keep (by omega) c0_0_8
  have c0_1_9 : w9.cell? ⟨w.heap.size, 1, none⟩ = some (.int .i64 v) := hB9.keep (by omega) c0_1_8
  have c1_0_9 : w9.cell? ⟨w2.heap.size, 0, none⟩ = some (.int .i64 3) := hB9.keep (by omega) c1_0_8
  have c1_1_9 : w9.cell? ⟨w2.heap.size, 1, none⟩ = some (.slice none 0 0) := hB9.keep (by omega) c1_1_8
  have c1_2_9 : w9.cell? ⟨w2.heap.size, 2, none⟩ = some (.bool false) := hB9.keep (by omega) c1_2_8
  have c1_3_9 : w9.cell? ⟨w2.heap.size, 3, none⟩ = some (.bool false) := hB9.keep (by omega) c1_3_8
  have c1_4_9 : w9.cell? ⟨w2.heap.size, 4, none⟩ = some (.int .i64 v) := hB9.keep (by omega) c1_4_8
  have c1_5_9 : w9.cell? ⟨w2.heap.size, 5, none⟩ = some (.string ⟨#[]⟩) := hB9.keep (by omega) c1_5_8
  have c2_0_9 : w9.cell? ⟨w3.heap.size, 0, none⟩ = some (.int .i64 4) := hB9.keep (by omega) c2_0_8
  have c2_1_9 : w9.cell? ⟨w3.heap.size, 1, none⟩ = some (.slice none 0 0) := hB9.keep (by omega) c2_1_8
  have c2_2_9 : w9.cell? ⟨w3.heap.size, 2, none⟩ = some (.bool false) := hB9.keep (by omega) c2_2_8
  have c2_3_9 : w9.cell? ⟨w3.heap.size, 3, none⟩ = some (.bool false) := hB9.keep (by omega) c2_3_8
  have c2_4_9 : w9.cell? ⟨w3.heap.size, 4, none⟩ = some (.int .i64 0) := hB9.keep (by omega) c2_4_8
  have c2_5_9 : w9.cell? ⟨w3.heap.size, 5, none⟩ = some (.string (bs T)) := hB9.keep (by omega) c2_5_8
  have c3_0_9 : w9.cell? ⟨w4.heap.size, 0, none⟩ = some (.int .i64 4) := hB9.keep (by omega) c3_0_8
  have c3_1_9 : w9.cell? ⟨w4.heap.size, 1, none⟩ = some (.slice none 0 0) := hB9.keep (by omega) c3_1_8
  have c3_2_9 : w9.cell? ⟨w4.heap.size, 2, none⟩ = some (.bool false) := hB9.keep (by omega) c3_2_8
  have c3_3_9 : w9.cell? ⟨w4.heap.size, 3, none⟩ = some (.bool false) := hB9.keep (by omega) c3_3_8
  have c3_4_9 : w9.cell? ⟨w4.heap.size, 4, none⟩ = some (.int .i64 0) := hB9.keep (by omega) c3_4_8
  have c3_5_9 : w9.cell? ⟨w4.heap.size, 5, none⟩ = some (.string (bs T)) := hB9.keep (by omega) c3_5_8
  have c4_0_9 : w9.cell? ⟨w5.heap.size, 0, none⟩ = some (.int .i64 3) := hB9.keep (by omega) c4_0_8
  have c4_1_9 : w9.cell? ⟨w5.heap.size, 1, none⟩ = some (.slice none 0 0) := hB9.keep (by omega) c4_1_8
  have c4_2_9 : w9.cell? ⟨w5.heap.size, 2, none⟩ = some (.bool false) := hB9.keep (by omega) c4_2_8
  have c4_3_9 : w9.cell? ⟨w5.heap.size, 3, none⟩ = some (.bool false) := hB9.keep (by omega) c4_3_8
  have c4_4_9 : w9.cell? ⟨w5.heap.size, 4, none⟩ = some (.int .i64 v) := hB9.keep (by omega) c4_4_8
  have c4_5_9 : w9.cell? ⟨w5.heap.size, 5, none⟩ = some (.string ⟨#[]⟩) := hB9.keep (by omega) c4_5_8
  have c5_0_9 : w9.cell? ⟨w7.heap.size, 0, none⟩ = some (.int .i64 3) := hB9.keep (by omega) c5_0_8
  have c5_1_9 : w9.cell? ⟨w7.heap.size, 1, none⟩ = some (.slice none 0 0) := hB9.keep (by omega) c5_1_8
  have c5_2_9 : w9.cell? ⟨w7.heap.size, 2, none⟩ = some (.bool false) := hB9.keep (by omega) c5_2_8
  have c5_3_9 : w9.cell? ⟨w7.heap.size, 3, none⟩ = some (.bool false) := hB9.keep (by omega) c5_3_8
  have c5_4_9 : w9.cell? ⟨w7.heap.size, 4, none⟩ = some (.int .i64 F) := hB9.keep (by omega) c5_4_8
  have c5_5_9 : w9.cell? ⟨w7.heap.size, 5, none⟩ = some (.string ⟨#[]⟩) := hB9.keep (by omega) c5_5_8
  clear c0_0_8 c0_1_8 c1_0_8 c1_1_8 c1_2_8 c1_3_8 c1_4_8 c1_5_8 c2_0_8 c2_1_8 c2_2_8 c2_3_8 c2_4_8 c2_5_8 c3_0_8 c3_1_8 c3_2_8 c3_3_8 c3_4_8 c3_5_8 c4_0_8 c4_1_8 c4_2_8 c4_3_8 c4_4_8 c4_5_8 c5_0_8 c5_1_8 c5_2_8 c5_3_8 c5_4_8 c5_5_8 l0_8 l1_8 l2_8 l3_8 l4_8 l5_8
  go_wp2_with fail
  obtain ⟨w10, hW10⟩ : ∃ wz, (w9.alloc (.cells #[.int .i64 3, .slice none 0 0, .bool false, .bool false, .int .i64 C, .string ⟨#[]⟩] 28)) = wz := ⟨_, rfl⟩
  rw [hW10]
  have hB10 : Ext (w9.alloc (.cells #[.int .i64 3, .slice none 0 0, .bool false, .bool false, .int .i64 C, .string ⟨#[]⟩] 28)) w10 := by rw [hW10]; exact Ext.refl _
  clear hW10
  have hz10 := hB10.size
  simp at hz10
  have l0_10 : w.heap.size < w10.heap.size := by omega
  have l1_10 : w2.heap.size < w10.heap.size := by omega
  have l2_10 : w3.heap.size < w10.heap.size := by omega
  have l3_10 : w4.heap.size < w10.heap.size := by omega
  have l4_10 : w5.heap.size < w10.heap.size := by omega
  have l5_10 : w7.heap.size < w10.heap.size := by omega
  have l6_10 : w9.heap.size < w10.heap.size := by omega
  have c0_0_10 : w10.cell? ⟨w.heap.size, 0, none⟩ = some (.bool false) := hB10.keep (by first | (simp; done) | (simp; omega)) (by simp [go_sem, l0_9, l1_9, l2_9, l3_9, l4_9, l5_9, c0_0_9])
  have c0_1_10 : w10.cell? ⟨w.heap.size, 1, none⟩ = some (.int .i64 v) := hB10.keep (by first | (simp; done) | (simp; omega)) (by simp [go_sem, l0_9, l1_9, l2_9, l3_9, l4_9, l5_9, c0_1_9])
  have c1_0_10 : w10.cell? ⟨w2.heap.size, 0, none⟩ = some (.int .i64 3) := hB10.keep (by first | (simp; done) | (simp; omega)) (by simp [go_sem, l0_9, l1_9, l2_9, l3_9, l4_9, l5_9, c1_0_9])
  have c1_1_10 : w10.cell? ⟨w2.heap.size, 1, none⟩ = some (.slice none 0 0) := hB10.keep (by first | (simp; done) | (simp; omega)) (by simp [go_sem, l0_9, l1_9, l2_9, l3_9, l4_9, l5_9, c1_1_9])
  have c1_2_10 : w10.cell? ⟨w2.heap.size, 2, none⟩ = some (.bool false) := hB10.keep (by first | (simp; done) | (simp; omega)) (by simp [go_sem, l0_9, l1_9, l2_9, l3_9, l4_9, l5_9, c1_2_9])
  have c1_3_10 : w10.cell? ⟨w2.heap.size, 3, none⟩ = some (.bool false) := hB10.keep (by first | (simp; done) | (simp; omega)) (by simp [go_sem, l0_9, l1_9, l2_9, l3_9, l4_9, l5_9, c1_3_9])
  have c1_4_10 : w10.cell? ⟨w2.heap.size, 4, none⟩ = some (.int .i64 v) := hB10.keep (by first | (simp; done) | (simp; omega)) (by simp [go_sem, l0_9, l1_9, l2_9, l3_9, l4_9, l5_9, c1_4_9])
  have c1_5_10 : w10.cell? ⟨w2.heap.size, 5, none⟩ = some (.string ⟨#[]⟩) := hB10.keep (by first | (simp; done) | (simp; omega)) (by simp [go_sem, l0_9, l1_9, l2_9, l3_9, l4_9, l5_9, c1_5_9])
  have c2_0_10 : w10.cell? ⟨w3.heap.size, 0, none⟩ = some (.int .i64 4) := hB10.keep (by first | (simp; done) | (simp; omega)) (by simp [go_sem, l0_9, l1_9, l2_9, l3_9, l4_9, l5_9, c2_0_9])
  have c2_1_10 : w10.cell? ⟨w3.heap.size, 1, none⟩ = some (.slice none 0 0) := hB10.keep (by first | (simp; done) | (simp; omega)) (by simp [go_sem, l0_9, l1_9, l2_9, l3_9, l4_9, l5_9, c2_1_9])
  have c2_2_10 : w10.cell? ⟨w3.heap.size, 2, none⟩ = some (.bool false) := hB10.keep (by first | (simp; done) | (simp; omega)) (by simp [go_sem, l0_9, l1_9, l2_9, l3_9, l4_9, l5_9, c2_2_9])
  have c2_3_10 : w10.cell? ⟨w3.heap.size, 3, none⟩ = some (.bool false) := hB10.keep (by first | (simp; done) | (simp; omega)) (by simp [go_sem, l0_9, l1_9, l2_9, l3_9, l4_9, l5_9, c2_3_9])
  have c2_4_10 : w10.cell? ⟨w3.heap.size, 4, none⟩ = some (.int .i64 0) := hB10.keep (by first | (simp; done) | (simp; omega)) (by simp [go_sem, l0_9, l1_9, l2_9, l3_9, l4_9, l5_9, c2_4_9])
  have c2_5_10 : w10.cell? ⟨w3.heap.size, 5, none⟩ = some (.string (bs T)) := hB10.keep (by first | (simp; done) | (simp; omega)) (by simp [go_sem, l0_9, l1_9, l2_9, l3_9, l4_9, l5_9, c2_5_9])
  have c3_0_10 : w10.cell? ⟨w4.heap.size, 0, none⟩ = some (.int .i64 4) := hB10.keep (by first | (simp; done) | (simp; omega)) (by simp [go_sem, l0_9, l1_9, l2_9, l3_9, l4_9, l5_9, c3_0_9])
  have c3_1_10 : w10.cell? ⟨w4.heap.size, 1, none⟩ = some (.slice none 0 0) := hB10.keep (by first | (simp; done) | (simp; omega)) (by simp [go_sem, l0_9, l1_9, l2_9, l3_9, l4_9, l5_9, c3_1_9])
  have c3_2_10 : w10.cell? ⟨w4.heap.size, 2, none⟩ = some (.bool false) := hB10.keep (by first | (simp; done) | (simp; omega)) (by simp [go_sem, l0_9, l1_9, l2_9, l3_9, l4_9, l5_9, c3_2_9])
  have c3_3_10 : w10.cell? ⟨w4.heap.size, 3, none⟩ = some (.bool false) := hB10.keep (by first | (simp; done) | (simp; omega)) (by simp [go_sem, l0_9, l1_9, l2_9, l3_9, l4_9, l5_9, c3_3_9])
  have c3_4_10 : w10.cell? ⟨w4.heap.size, 4, none⟩ = some (.int .i64 0) := hB10.keep (by first | (simp; done) | (simp; omega)) (by simp [go_sem, l0_9, l1_9, l2_9, l3_9, l4_9, l5_9, c3_4_9])
  have c3_5_10 : w10.cell? ⟨w4.heap.size, 5, none⟩ = some (.string (bs T)) := hB10.keep (by first | (simp; done) | (simp; omega)) (by simp [go_sem, l0_9, l1_9, l2_9, l3_9, l4_9, l5_9, c3_5_9])
  have c4_0_10 : w10.cell? ⟨w5.heap.size, 0, none⟩ = some (.int .i64 3) := hB10.keep (by first | (simp; done) | (simp; omega)) (by simp [go_sem, l0_9, l1_9, l2_9, l3_9, l4_9, l5_9, c4_0_9])
  have c4_1_10 : w10.cell? ⟨w5.heap.size, 1, none⟩ = some (.slice none 0 0) := hB10.keep (by first | (simp; done) | (simp; omega)) (by simp [go_sem, l0_9, l1_9, l2_9, l3_9, l4_9, l5_9, c4_1_9])
  have c4_2_10 : w10.cell? ⟨w5.heap.size, 2, none⟩ = some (.bool false) := hB10.keep (by first | (simp; done) | (simp; omega)) (by simp [go_sem, l0_9, l1_9, l2_9, l3_9, l4_9, l5_9, c4_2_9])
  have c4_3_10 : w10.cell? ⟨w5.heap.size, 3, none⟩ = some (.bool false) := hB10.keep (by first | (simp; done) | (simp; omega)) (by simp [go_sem, l0_9, l1_9, l2_9, l3_9, l4_9, l5_9, c4_3_9])
  have c4_4_10 : w10.cell? ⟨w5.heap.size, 4, none⟩ = some (.int .i64 v) := hB10.keep (by first | (simp; done) | (simp; omega)) (by simp [go_sem, l0_9, l1_9, l2_9, l3_9, l4_9, l5_9, c4_4_9])
  have c4_5_10 : w10.cell? ⟨w5.heap.size, 5, none⟩ = some (.string ⟨#[]⟩) := hB10.keep (by first | (simp; done) | (simp; omega)) (by simp [go_sem, l0_9, l1_9, l2_9, l3_9, l4_9, l5_9, c4_5_9])
  have c5_0_10 : w10.cell? ⟨w7.heap.size, 0, none⟩ = some (.int .i64 3) := hB10.keep (by first | (simp; done) | (simp; omega)) (by simp [go_sem, l0_9, l1_9, l2_9, l3_9, l4_9, l5_9, c5_0_9])
  have c5_1_10 : w10.cell? ⟨w7.heap.size, 1, none⟩ = some (.slice none 0 0) := hB10.keep (by first | (simp; done) | (simp; omega)) (by simp [go_sem, l0_9, l1_9, l2_9, l3_9, l4_9, l5_9, c5_1_9])
  have c5_2_10 : w10.cell? ⟨w7.heap.size, 2, none⟩ = some (.bool false) := hB10.keep (by first | (simp; done) | (simp; omega)) (by simp [go_sem, l0_9, l1_9, l2_9, l3_9, l4_9, l5_9, c5_2_9])
  have c5_3_10 : w10.cell? ⟨w7.heap.size, 3, none⟩ = some (.bool false) := hB10.keep (by first | (simp; done) | (simp; omega)) (by simp [go_sem, l0_9, l1_9, l2_9, l3_9, l4_9, l5_9, c5_3_9])
  have c5_4_10 : w10.cell? ⟨w7.heap.size, 4, none⟩ = some (.int .i64 F) := hB10.keep (by first | (simp; done) | (simp; omega)) (by simp [go_sem, l0_9, l1_9, l2_9, l3_9, l4_9, l5_9, c5_4_9])
  have c5_5_10 : w10.cell? ⟨w7.heap.size, 5, none⟩ = some (.string ⟨#[]⟩) := hB10.keep (by first | (simp; done) | (simp; omega)) (by simp [go_sem, l0_9, l1_9, l2_9, l3_9, l4_9, l5_9, c5_5_9])
  have c6_0_10 : w10.cell? ⟨w9.heap.size, 0, none⟩ = some (.int .i64 3) := hB10.keep (by first | (simp; done) | (simp; omega)) (by simp [go_sem, l0_9, l1_9, l2_9, l3_9, l4_9, l5_9])
  have c6_1_10 : w10.cell? ⟨w9.heap.size, 1, none⟩ = some (.slice none 0 0) := hB10.keep (by first | (simp; done) | (simp; omega)) (by simp [go_sem, l0_9, l1_9, l2_9, l3_9, l4_9, l5_9])
  have c6_2_10 : w10.cell? ⟨w9.heap.size, 2, none⟩ = some (.bool false) := hB10.keep (by first | (simp; done) | (simp; omega)) (by simp [go_sem, l0_9, l1_9, l2_9, l3_9, l4_9, l5_9])
  have c6_3_10 : w10.cell? ⟨w9.heap.size, 3, none⟩ = some (.bool false) := hB10.keep (by first | (simp; done) | (simp; omega)) (by simp [go_sem, l0_9, l1_9, l2_9, l3_9, l4_9, l5_9])
  have c6_4_10 : w10.cell? ⟨w9.heap.size, 4, none⟩ = some (.int .i64 C) := hB10.keep (by first | (simp; done) | (simp; omega)) (by simp [go_sem, l0_9, l1_9, l2_9, l3_9, l4_9, l5_9])
  have c6_5_10 : w10.cell? ⟨w9.heap.size, 5, none⟩ = some (.string ⟨#[]⟩) := hB10.keep (by first | (simp; done) | (simp; omega)) (by simp [go_sem, l0_9, l1_9, l2_9, l3_9, l4_9, l5_9])
  clear c0_0_9 c0_1_9 c1_0_9 c1_1_9 c1_2_9 c1_3_9 c1_4_9 c1_5_9 c2_0_9 c2_1_9 c2_2_9 c2_3_9 c2_4_9 c2_5_9 c3_0_9 c3_1_9 c3_2_9 c3_3_9 c3_4_9 c3_5_9 c4_0_9 c4_1_9 c4_2_9 c4_3_9 c4_4_9 c4_5_9 c5_0_9 c5_1_9 c5_2_9 c5_3_9 c5_4_9 c5_5_9 l0_9 l1_9 l2_9 l3_9 l4_9 l5_9
  go_wp2_with fail
  refine (HRO.out w2.heap.size 1 _ ⟨l1_10, c1_0_10, c1_1_10, c1_2_10, c1_3_10, c1_4_10, c1_5_10⟩).mono ?_
  rintro e w11 ⟨rfl, hB11⟩
  have hz11 := hB11.size
  have l0_11 : w.heap.size < w11.heap.size := by omega
  have l1_11 : w2.heap.size < w11.heap.size := by omega
  have l2_11 : w3.heap.size < w11.heap.size := by omega
  have l3_11 : w4.heap.size < w11.heap.size := by omega
  have l4_11 : w5.heap.size < w11.heap.size := by omega
  have l5_11 : w7.heap.size < w11.heap.size := by omega
  have l6_11 : w9.heap.size < w11.heap.size := by omega
  have c0_0_11 : w11.cell? ⟨w.heap.size, 0, none⟩ = some (.bool false) := hB11.keep (by omega) c0_0_10
  have c0_1_11 : w11.cell? ⟨w.heap.size, 1, none⟩ = some (.int .i64 v) := hB11.keep (by omega) c0_1_10
  have c1_0_11 : w11.cell? ⟨w2.heap.size, 0, none⟩ = some (.int .i64 3) := hB11.keep (by omega) c1_0_10
  have c1_1_11 : w11.cell? ⟨w2.heap.size, 1, none⟩ = some (.slice none 0 0) := hB11.keep (by omega) c1_1_10
  have c1_2_11 : w11.cell? ⟨w2.heap.size, 2, none⟩ = some (.bool false) := hB11.keep (by omega) c1_2_10
  have c1_3_11 : w11.cell? ⟨w2.heap.size, 3, none⟩ = some (.bool false) := hB11.keep (by omega) c1_3_10
  have c1_4_11 : w11.cell? ⟨w2.heap.size, 4, none⟩ = some (.int .i64 v) := hB11.keep (by omega) c1_4_10
  have c1_5_11 : w11.cell? ⟨w2.heap.size, 5, none⟩ = some (.string ⟨#[]⟩) := hB11.keep (by omega) c1_5_10
  have c2_0_11 : w11.cell? ⟨w3.heap.size, 0, none⟩ = some (.int .i64 4) := hB11.keep (by omega) c2_0_10
  have c2_1_11 : w11.cell? ⟨w3.heap.size, 1, none⟩ = some (.slice none 0 0) := hB11.keep (by omega) c2_1_10
  have c2_2_11 : w11.cell? ⟨w3.heap.size, 2, none⟩ = some (.bool false) := hB11.keep (by omega) c2_2_10
  have c2_3_11 : w11.cell? ⟨w3.heap.size, 3, none⟩ = some (.bool false) := hB11.keep (by omega) c2_3_10
  have c2_4_11 : w11.cell? ⟨w3.heap.size, 4, none⟩ = some (.int .i64 0) := hB11.keep (by omega) c2_4_10
  have c2_5_11 : w11.cell? ⟨w3.heap.size, 5, none⟩ = some (.string (bs T)) := hB11.keep (by omega) c2_5_10
  have c3_0_11 : w11.cell? ⟨w4.heap.size, 0, none⟩ = some (.int .i64 4) := hB11.keep (by omega) c3_0_10
  have c3_1_11 : w11.cell? ⟨w4.heap.size, 1, none⟩ = some (.slice none 0 0) := hB11.keep (by omega) c3_1_10
  have c3_2_11 : w11.cell? ⟨w4.heap.size, 2, none⟩ = some (.bool false) := hB11.keep (by omega) c3_2_10
  have c3_3_11 : w11.cell? ⟨w4.heap.size, 3, none⟩ = some (.bool false) := hB11.keep (by omega) c3_3_10
  have c3_4_11 : w11.cell? ⟨w4.heap.size, 4, none⟩ = some (.int .i64 0) := hB11.keep (by omega) c3_4_10
  have c3_5_11 : w11.cell? ⟨w4.heap.size, 5, none⟩ = some (.string (bs T)) := hB11.keep (by omega) c3_5_10
  have c4_0_11 : w11.cell? ⟨w5.heap.size, 0, none⟩ = some (.int .i64 3) := hB11.keep (by omega) c4_0_10
  have c4_1_11 : w11.cell? ⟨w5.heap.size, 1, none⟩ = some (.slice none 0 0) := hB11.keep (by omega) c4_1_10
  have c4_2_11 : w11.cell? ⟨w5.heap.size, 2, none⟩ = some (.bool false) := hB11.keep (by omega) c4_2_10
  have c4_3_11 : w11.cell? ⟨w5.heap.size, 3, none⟩ = some (.bool false) := hB11.keep (by omega) c4_3_10
  have c4_4_11 : w11.cell? ⟨w5.heap.size, 4, none⟩ = some (.int .i64 v) := hB11.keep (by omega) c4_4_10
  have c4_5_11 : w11.cell? ⟨w5.heap.size, 5, none⟩ = some (.string ⟨#[]⟩) := hB11.keep (by omega) c4_5_10
  have c5_0_11 : w11.cell? ⟨w7.heap.size, 0, none⟩ = some (.int .i64 3) := hB11.keep (by omega) c5_0_10
  have c5_1_11 : w11.cell? ⟨w7.heap.size, 1, none⟩ = some (.slice none 0 0) := hB11.keep (by omega) c5_1_10
  have c5_2_11 : w11.cell? ⟨w7.heap.size, 2, none⟩ = some (.bool false) := hB11.keep (by omega) c5_2_10
  have c5_3_11 : w11.cell? ⟨w7.heap.size, 3, none⟩ = some (.bool false) := hB11.keep (by omega) c5_3_10
  have c5_4_11 : w11.cell? ⟨w7.heap.size, 4, none⟩ = some (.int .i64 F) := hB11.keep (by omega) c5_4_10
  have c5_5_11 : w11.cell? ⟨w7.heap.size, 5, none⟩ = some (.string ⟨#[]⟩) := hB11.keep (by omega) c5_5_10
  have c6_0_11 : w11.cell? ⟨w9.heap.size, 0, none⟩ = some (.int .i64 3) := hB11.keep (by omega) c6_0_10
  have c6_1_11 : w11.cell? ⟨w9.heap.size, 1, none⟩ = some (.slice none 0 0) := hB11.keep (by omega) c6_1_10
  have c6_2_11 : w11.cell? ⟨w9.heap.size, 2, none⟩ = some (.bool false) := hB11.keep (by omega) c6_2_10
  have c6_3_11 : w11.cell? ⟨w9.heap.size, 3, none⟩ = some (.bool false) := hB11.keep (by omega) c6_3_10
  have c6_4_11 : w11.cell? ⟨w9.heap.size, 4, none⟩ = some (.int .i64 C) := hB11.keep (by omega) c6_4_10
  have c6_5_11 : w11.cell? ⟨w9.heap.size, 5, none⟩ = some (.string ⟨#[]⟩) := hB11.keep (by omega) c6_5_10
  clear c0_0_10 c0_1_10 c1_0_10 c1_1_10 c1_2_10 c1_3_10 c1_4_10 c1_5_10 c2_0_10 c2_1_10 c2_2_10 c2_3_10 c2_4_10 c2_5_10 c3_0_10 c3_1_10 c3_2_10 c3_3_10 c3_4_10 c3_5_10 c4_0_10 c4_1_10 c4_2_10 c4_3_10 c4_4_10 c4_5_10 c5_0_10 c5_1_10 c5_2_10 c5_3_10 c5_4_10 c5_5_10 c6_0_10 c6_1_10 c6_2_10 c6_3_10 c6_4_10 c6_5_10 l0_10 l1_10 l2_10 l3_10 l4_10 l5_10 l6_10
  go_wp2_with fail
  refine (HL1.out _).mono ?_
  rintro e w12 ⟨rfl, hB12⟩
  have hz12 := hB12.size
  simp at hz12
  have l0_12 : w.heap.size < w12.heap.size := by omega
  have l1_12 : w2.heap.size < w12.heap.size := by omega
  have l2_12 : w3.heap.size < w12.heap.size := by omega
  have l3_12 : w4.heap.size < w12.heap.size := by omega
  have l4_12 : w5.heap.size < w12.heap.size := by omega
  have l5_12 : w7.heap.size < w12.heap.size := by omega
  have l6_12 : w9.heap.size < w12.heap.size := by omega
  have l7_12 : w11.heap.size < w12.heap.size := by omega
  have c0_0_12 : w12.cell? ⟨w.heap.size, 0, none⟩ = some (.bool false) := hB12.keep (by first | (simp; done) | (simp; omega)) (by simp [go_sem, l0_11, l1_11, l2_11, l3_11, l4_11, l5_11, l6_11, c0_0_11])
  have c0_1_12 : w12.cell? ⟨w.heap.size, 1, none⟩ = some (.int .i64 v) := hB12.keep (by first | (simp; done) | (simp; omega)) (by simp [go_sem, l0_11, l1_11, l2_11, l3_11, l4_11, l5_11, l6_11, c0_1_11])
  have c1_0_12 : w12.cell? ⟨w2.heap.size, 0, none⟩ = some (.int .i64 3) := hB12.keep (by first | (simp; done) | (simp; omega)) (by simp [go_sem, l0_11, l1_11, l2_11, l3_11, l4_11, l5_11, l6_11, c1_0_11])
  have c1_1_12 : w12.cell? ⟨w2.heap.size, 1, none⟩ = some (.slice none 0 0) := hB12.keep (by first | (simp; done) | (simp; omega)) (by simp [go_sem, l0_11, l1_11, l2_11, l3_11, l4_11, l5_11, l6_11, c1_1_11])
  have c1_2_12 : w12.cell? ⟨w2.heap.size, 2, none⟩ = some (.bool false) := hB12.keep (by first | (simp; done) | (simp; omega)) (by simp [go_sem, l0_11, l1_11, l2_11, l3_11, l4_11, l5_11, l6_11, c1_2_11])
  have c1_3_12 : w12.cell? ⟨w2.heap.size, 3, none⟩ = some (.bool false) := hB12.keep (by first | (simp; done) | (simp; omega)) (by simp [go_sem, l0_11, l1_11, l2_11, l3_11, l4_11, l5_11, l6_11, c1_3_11])
  have c1_4_12 : w12.cell? ⟨w2.heap.size, 4, none⟩ = some (.int .i64 v) := hB12.keep (by first | (simp; done) | (simp; omega)) (by simp [go_sem, l0_11, l1_11, l2_11, l3_11, l4_11, l5_11, l6_11, c1_4_11])
  have c1_5_12 : w12.cell? ⟨w2.heap.size, 5, none⟩ = some (.string ⟨#[]⟩) := hB12.keep (by first | (simp; done) | (simp; omega)) (by simp [go_sem, l0_11, l1_11, l2_11, l3_11, l4_11, l5_11, l6_11, c1_5_11])
  have c2_0_12 : w12.cell? ⟨w3.heap.size, 0, none⟩ = some (.int .i64 4) := hB12.keep (by first | (simp; done) | (simp; omega)) (by simp [go_sem, l0_11, l1_11, l2_11, l3_11, l4_11, l5_11, l6_11, c2_0_11])
  have c2_1_12 : w12.cell? ⟨w3.heap.size, 1, none⟩ = some (.slice none 0 0) := hB12.keep (by first | (simp; done) | (simp; omega)) (by simp [go_sem, l0_11, l1_11, l2_11, l3_11, l4_11, l5_11, l6_11, c2_1_11])
  have c2_2_12 : w12.cell? ⟨w3.heap.size, 2, none⟩ = some (.bool false) := hB12.keep (by first | (simp; done) | (simp; omega)) (by simp [go_sem, l0_11, l1_11, l2_11, l3_11, l4_11, l5_11, l6_11, c2_2_11])
  have c2_3_12 : w12.cell? ⟨w3.heap.size, 3, none⟩ = some (.bool false) := hB12.keep (by first | (simp; done) | (simp; omega)) (by simp [go_sem, l0_11, l1_11, l2_11, l3_11, l4_11, l5_11, l6_11, c2_3_11])
  have c2_4_12 : w12.cell? ⟨w3.heap.size, 4, none⟩ = some (.int .i64 0) := hB12.keep (by first | (simp; done) | (simp; omega)) (by simp [go_sem, l0_11, l1_11, l2_11, l3_11, l4_11, l5_11, l6_11, c2_4_11])
  have c2_5_12 : w12.cell? ⟨w3.heap.size, 5, none⟩ = some (.string (bs T)) := hB12.keep (by first | (simp; done) | (simp; omega)) (by simp [go_sem, l0_11, l1_11, l2_11, l3_11, l4_11, l5_11, l6_11, c2_5_11])
  have c3_0_12 : w12.cell? ⟨w4.heap.size, 0, none⟩ = some (.int .i64 4) := hB12.keep (by first | (simp; done) | (simp; omega)) (by simp [go_sem, l0_11, l1_11, l2_11, l3_11, l4_11, l5_11, l6_11, c3_0_11])
  have c3_1_12 : w12.cell? ⟨w4.heap.size, 1, none⟩ = some (.slice none 0 0) := hB12.keep (by first | (simp; done) | (simp; omega)) (by simp [go_sem, l0_11, l1_11, l2_11, l3_11, l4_11, l5_11, l6_11, c3_1_11])
  have c3_2_12 : w12.cell? ⟨w4.heap.size, 2, none⟩ = some (.bool false) := hB12.keep (by first | (simp; done) | (simp; omega)) (by simp [go_sem, l0_11, l1_11, l2_11, l3_11, l4_11, l5_11, l6_11, c3_2_11])
  have c3_3_12 : w12.cell? ⟨w4.heap.size, 3, none⟩ = some (.bool false) := hB12.keep (by first | (simp; done) | (simp; omega)) (by simp [go_sem, l0_11, l1_11, l2_11, l3_11, l4_11, l5_11, l6_11, c3_3_11])
  have c3_4_12 : w12.cell? ⟨w4.heap.size, 4, none⟩ = some (.int .i64 0) := hB12.keep (by first | (simp; done) | (simp; omega)) (by simp [go_sem, l0_11, l1_11, l2_11, l3_11, l4_11, l5_11, l6_11, c3_4_11])
  have c3_5_12 : w12.cell? ⟨w4.heap.size, 5, none⟩ = some (.string (bs T)) := hB12.keep (by first | (simp; done) | (simp; omega)) (by simp [go_sem, l0_11, l1_11, l2_11, l3_11, l4_11, l5_11, l6_11, c3_5_11])
  have c4_0_12 : w12.cell? ⟨w5.heap.size, 0, none⟩ = some (.int .i64 3) := hB12.keep (by first | (simp; done) | (simp; omega)) (by simp [go_sem, l0_11, l1_11, l2_11, l3_11, l4_11, l5_11, l6_11, c4_0_11])
  have c4_1_12 : w12.cell? ⟨w5.heap.size, 1, none⟩ = some (.slice none 0 0) := hB12.keep (by first | (simp; done) | (simp; omega)) (by simp [go_sem, l0_11, l1_11, l2_11, l3_11, l4_11, l5_11, l6_11, c4_1_11])
  have c4_2_12 : w12.cell? ⟨w5.heap.size, 2, none⟩ = some (.bool false) := hB12.keep (by first | (simp; done) | (simp; omega)) (by simp [go_sem, l0_11, l1_11, l2_11, l3_11, l4_11, l5_11, l6_11, c4_2_11])
  have c4_3_12 : w12.cell? ⟨w5.heap.size, 3, none⟩ = some (.bool false) := hB12.keep (by first | (simp; done) | (simp; omega)) (by simp [go_sem, l0_11, l1_11, l2_11, l3_11, l4_11, l5_11, l6_11, c4_3_11])
  have c4_4_12 : w12.cell? ⟨w5.heap.size, 4, none⟩ = some (.int .i64 v) := hB12.keep (by first | (simp; done) | (simp; omega)) (by simp [go_sem, l0_11, l1_11, l2_11, l3_11, l4_11, l5_11, l6_11, c4_4_11])
  have c4_5_12 : w12.cell? ⟨w5.heap.size, 5, none⟩ = some (.string ⟨#[]⟩) := hB12.keep (by first | (simp; done) | (simp; omega)) (by simp [go_sem, l0_11, l1_11, l2_11, l3_11, l4_11, l5_11, l6_11, c4_5_11])
  have c5_0_12 : w12.cell? ⟨w7.heap.size, 0, none⟩ = some (.int .i64 3) := hB12.keep (by first | (simp; done) | (simp; omega)) (by simp [go_sem, l0_11, l1_11, l2_11, l3_11, l4_11, l5_11, l6_11, c5_0_11])
  have c5_1_12 : w12.cell? ⟨w7.heap.size, 1, none⟩ = some (.slice none 0 0) := hB12.keep (by first | (simp; done) | (simp; omega)) (by simp [go_sem, l0_11, l1_11, l2_11, l3_11, l4_11, l5_11, l6_11, c5_1_11])
  have c5_2_12 : w12.cell? ⟨w7.heap.size, 2, none⟩ = some (.bool false) := hB12.keep (by first | (simp; done) | (simp; omega)) (by simp [go_sem, l0_11, l1_11, l2_11, l3_11, l4_11, l5_11, l6_11, c5_2_11])
  have c5_3_12 : w12.cell? ⟨w7.heap.size, 3, none⟩ = some (.bool false) := hB12.keep (by first | (simp; done) | (simp; omega)) (by simp [go_sem, l0_11, l1_11, l2_11, l3_11, l4_11, l5_11, l6_11, c5_3_11])
  have c5_4_12 : w12.cell? ⟨w7.heap.size, 4, none⟩ = some (.int .i64 F) := hB12.keep (by first | (simp; done) | (simp; omega)) (by simp [go_sem, l0_11, l1_11, l2_11, l3_11, l4_11, l5_11, l6_11, c5_4_11])
  have c5_5_12 : w12.cell? ⟨w7.heap.size, 5, none⟩ = some (.string ⟨#[]⟩) := hB12.keep (by first | (simp; done) | (simp; omega)) (by simp [go_sem, l0_11, l1_11, l2_11, l3_11, l4_11, l5_11, l6_11, c5_5_11])
  have c6_0_12 : w12.cell? ⟨w9.heap.size, 0, none⟩ = some (.int .i64 3) := hB12.keep (by first | (simp; done) | (simp; omega)) (by simp [go_sem, l0_11, l1_11, l2_11, l3_11, l4_11, l5_11, l6_11, c6_0_11])
  have c6_1_12 : w12.cell? ⟨w9.heap.size, 1, none⟩ = some (.slice none 0 0) := hB12.keep (by first | (simp; done) | (simp; omega)) (by simp [go_sem, l0_11, l1_11, l2_11, l3_11, l4_11, l5_11, l6_11, c6_1_11])
  have c6_2_12 : w12.cell? ⟨w9.heap.size, 2, none⟩ = some (.bool false) := hB12.keep (by first | (simp; done) | (simp; omega)) (by simp [go_sem, l0_11, l1_11, l2_11, l3_11, l4_11, l5_11, l6_11, c6_2_11])
  have c6_3_12 : w12.cell? ⟨w9.heap.size, 3, none⟩ = some (.bool false) := hB12.keep (by first | (simp; done) | (simp; omega)) (by simp [go_sem, l0_11, l1_11, l2_11, l3_11, l4_11, l5_11, l6_11, c6_3_11])
  have c6_4_12 : w12.cell? ⟨w9.heap.size, 4, none⟩ = some (.int .i64 C) := hB12.keep (by first | (simp; done) | (simp; omega)) (by simp [go_sem, l0_11, l1_11, l2_11, l3_11, l4_11, l5_11, l6_11, c6_4_11])
  have c6_5_12 : w12.cell? ⟨w9.heap.size, 5, none⟩ = some (.string ⟨#[]⟩) := hB12.keep (by first | (simp; done) | (simp; omega)) (by simp [go_sem, l0_11, l1_11, l2_11, l3_11, l4_11, l5_11, l6_11, c6_5_11])
  have c7_0_12 : w12.cell? ⟨w11.heap.size, 0, none⟩ = some (.int .i64 3) := hB12.keep (by first | (simp; done) | (simp; omega)) (by simp [go_sem, l0_11, l1_11, l2_11, l3_11, l4_11, l5_11, l6_11])
  have c7_1_12 : w12.cell? ⟨w11.heap.size, 1, none⟩ = some (.slice none 0 0) := hB12.keep (by first | (simp; done) | (simp; omega)) (by simp [go_sem, l0_11, l1_11, l2_11, l3_11, l4_11, l5_11, l6_11])
  have c7_2_12 : w12.cell? ⟨w11.heap.size, 2, none⟩ = some (.bool false) := hB12.keep (by first | (simp; done) | (simp; omega)) (by simp [go_sem, l0_11, l1_11, l2_11, l3_11, l4_11, l5_11, l6_11])
  have c7_3_12 : w12.cell? ⟨w11.heap.size, 3, none⟩ = some (.bool false) := hB12.keep (by first | (simp; done) | (simp; omega)) (by simp [go_sem, l0_11, l1_11, l2_11, l3_11, l4_11, l5_11, l6_11])
  have c7_4_12 : w12.cell? ⟨w11.heap.size, 4, none⟩ = some (.int .i64 F) := hB12.keep (by first | (simp; done) | (simp; omega)) (by simp [go_sem, l0_11, l1_11, l2_11, l3_11, l4_11, l5_11, l6_11])
  have c7_5_12 : w12.cell? ⟨w11.heap.size, 5, none⟩ = some (.string ⟨#[]⟩) := hB12.keep (by first | (simp; done) | (simp; omega)) (by simp [go_sem, l0_11, l1_11, l2_11, l3_11, l4_11, l5_11, l6_11])
  clear c0_0_11 c0_1_11 c1_0_11 c1_1_11 c1_2_11 c1_3_11 c1_4_11 c1_5_11 c2_0_11 c2_1_11 c2_2_11 c2_3_11 c2_4_11 c2_5_11 c3_0_11 c3_1_11 c3_2_11 c3_3_11 c3_4_11 c3_5_11 c4_0_11 c4_1_11 c4_2_11 c4_3_11 c4_4_11 c4_5_11 c5_0_11 c5_1_11 c5_2_11 c5_3_11 c5_4_11 c5_5_11 c6_0_11 c6_1_11 c6_2_11 c6_3_11 c6_4_11 c6_5_11 l0_11 l1_11 l2_11 l3_11 l4_11 l5_11 l6_11
  go_wp2_with fail
  refine (HL2.out _).mono ?_
  rintro e w13 ⟨rfl, hB13⟩
  have hz13 := hB13.size
  have l0_13 : w.heap.size < w13.heap.size := by omega
  have l1_13 : w2.heap.size < w13.heap.size := by omega
  have l2_13 : w3.heap.size < w13.heap.size := by omega
  have l3_13 : w4.heap.size < w13.heap.size := by omega
  have l4_13 : w5.heap.size < w13.heap.size := by omega
  have l5_13 : w7.heap.size < w13.heap.size := by omega
  have l6_13 : w9.heap.size < w13.heap.size := by omega
  have l7_13 : w11.heap.size < w13.heap.size := by omega
  have c0_0_13 : w13.cell? ⟨w.heap.size, 0, none⟩ = some (.bool false) := hB13.keep (by omega) c0_0_12
  have c0_1_13 : w13.cell? ⟨w.heap.size, 1, none⟩ = some (.int .i64 v) := hB13.keep (by omega) c0_1_12
  have c1_0_13 : w13.cell? ⟨w2.heap.size, 0, none⟩ = some (.int .i64 3) := hB13.keep (by omega) c1_0_12
  have c1_1_13 : w13.cell? ⟨w2.heap.size, 1, none⟩ = some (.slice none 0 0) := hB13.keep (by omega) c1_1_12
  have c1_2_13 : w13.cell? ⟨w2.heap.size, 2, none⟩ = some (.bool false) := hB13.keep (by omega) c1_2_12
  have c1_3_13 : w13.cell? ⟨w2.heap.size, 3, none⟩ = some (.bool false) := hB13.keep (by omega) c1_3_12
  have c1_4_13 : w13.cell? ⟨w2.heap.size, 4, none⟩ = some (.int .i64 v) := hB13.keep (by omega) c1_4_12
  have c1_5_13 : w13.cell? ⟨w2.heap.size, 5, none⟩ = some (.string ⟨#[]⟩) := hB13.keep (by omega) c1_5_12
  have c2_0_13 : w13.cell? ⟨w3.heap.size, 0, none⟩ = some (.int .i64 4) := hB13.keep (by omega) c2_0_12
  have c2_1_13 : w13.cell? ⟨w3.heap.size, 1, none⟩ = some (.slice none 0 0) := hB13.keep (by omega) c2_1_12
  have c2_2_13 : w13.cell? ⟨w3.heap.size, 2, none⟩ = some (.bool false) := hB13.keep (by omega) c2_2_12
  have c2_3_13 : w13.cell? ⟨w3.heap.size, 3, none⟩ = some (.bool false) := hB13.keep (by omega) c2_3_12
  have c2_4_13 : w13.cell? ⟨w3.heap.size, 4, none⟩ = some (.int .i64 0) := hB13.keep (by omega) c2_4_12
  have c2_5_13 : w13.cell? ⟨w3.heap.size, 5, none⟩ = some (.string (bs T)) := hB13.keep (by omega) c2_5_12
  have c3_0_13 : w13.cell? ⟨w4.heap.size, 0, none⟩ = some (.int .i64 4) := hB13.keep (by omega) c3_0_12
  have c3_1_13 : w13.cell? ⟨w4.heap.size, 1, none⟩ = some (.slice none 0 0) := hB13.keep (by omega) c3_1_12
  have c3_2_13 : w13.cell? ⟨w4.heap.size, 2, none⟩ = some (.bool false) := hB13.keep (by omega) c3_2_12
  have c3_3_13 : w13.cell? ⟨w4.heap.size, 3, none⟩ = some (.bool false) := hB13.keep (by omega) c3_3_12
  have c3_4_13 : w13.cell? ⟨w4.heap.size, 4, none⟩ = some (.int .i64 0) := hB13.keep (by omega) c3_4_12
  have c3_5_13 : w13.cell? ⟨w4.heap.size, 5, none⟩ = some (.string (bs T)) := hB13.keep (by omega) c3_5_12
  have c4_0_13 : w13.cell? ⟨w5.heap.size, 0, none⟩ = some (.int .i64 3) := hB13.keep (by omega) c4_0_12
  have c4_1_13 : w13.cell? ⟨w5.heap.size, 1, none⟩ = some (.slice none 0 0) := hB13.keep (by omega) c4_1_12
  have c4_2_13 : w13.cell? ⟨w5.heap.size, 2, none⟩ = some (.bool false) := hB13.keep (by omega) c4_2_12
  have c4_3_13 : w13.cell? ⟨w5.heap.size, 3, none⟩ = some (.bool false) := hB13.keep (by omega) c4_3_12
  have c4_4_13 : w13.cell? ⟨w5.heap.size, 4, none⟩ = some (.int .i64 v) := hB13.keep (by omega) c4_4_12
  have c4_5_13 : w13.cell? ⟨w5.heap.size, 5, none⟩ = some (.string ⟨#[]⟩) := hB13.keep (by omega) c4_5_12
  have c5_0_13 : w13.cell? ⟨w7.heap.size, 0, none⟩ = some (.int .i64 3) := hB13.keep (by omega) c5_0_12
  have c5_1_13 : w13.cell? ⟨w7.heap.size, 1, none⟩ = some (.slice none 0 0) := hB13.keep (by omega) c5_1_12
  have c5_2_13 : w13.cell? ⟨w7.heap.size, 2, none⟩ = some (.bool false) := hB13.keep (by omega) c5_2_12
  have c5_3_13 : w13.cell? ⟨w7.heap.size, 3, none⟩ = some (.bool false) := hB13.keep (by omega) c5_3_12
  have c5_4_13 : w13.cell? ⟨w7.heap.size, 4, none⟩ = some (.int .i64 F) := hB13.keep (by omega) c5_4_12
  have c5_5_13 : w13.cell? ⟨w7.heap.size, 5, none⟩ = some (.string ⟨#[]⟩) := hB13.keep (by omega) c5_5_12
  have c6_0_13 : w13.cell? ⟨w9.heap.size, 0, none⟩ = some (.int .i64 3) := hB13.keep (by omega) c6_0_12
  have c6_1_13 : w13.cell? ⟨w9.heap.size, 1, none⟩ = some (.slice none 0 0) := hB13.keep (by omega) c6_1_12
  have c6_2_13 : w13.cell? ⟨w9.heap.size, 2, none⟩ = some (.bool false) := hB13.keep (by omega) c6_2_12
  have c6_3_13 : w13.cell? ⟨w9.heap.size, 3, none⟩ = some (.bool false) := hB13.keep (by omega) c6_3_12
  have c6_4_13 : w13.cell? ⟨w9.heap.size, 4, none⟩ = some (.int .i64 C) := hB13.keep (by omega) c6_4_12
  have c6_5_13 : w13.cell? ⟨w9.heap.size, 5, none⟩ = some (.string ⟨#[]⟩) := hB13.keep (by omega) c6_5_12
  have c7_0_13 : w13.cell? ⟨w11.heap.size, 0, none⟩ = some (.int .i64 3) := hB13.keep (by omega) c7_0_12
  have c7_1_13 : w13.cell? ⟨w11.heap.size, 1, none⟩ = some (.slice none 0 0) := hB13.keep (by omega) c7_1_12
  have c7_2_13 : w13.cell? ⟨w11.heap.size, 2, none⟩ = some (.bool false) := hB13.keep (by omega) c7_2_12
  have c7_3_13 : w13.cell? ⟨w11.heap.size, 3, none⟩ = some (.bool false) := hB13.keep (by omega) c7_3_12
  have c7_4_13 : w13.cell? ⟨w11.heap.size, 4, none⟩ = some (.int .i64 F) := hB13.keep (by omega) c7_4_12
  have c7_5_13 : w13.cell? ⟨w11.heap.size, 5, none⟩ = some (.string ⟨#[]⟩) := hB13.keep (by omega) c7_5_12
  clear c0_0_12 c0_1_12 c1_0_12 c1_1_12 c1_2_12 c1_3_12 c1_4_12 c1_5_12 c2_0_12 c2_1_12 c2_2_12 c2_3_12 c2_4_12 c2_5_12 c3_0_12 c3_1_12 c3_2_12 c3_3_12 c3_4_12 c3_5_12 c4_0_12 c4_1_12 c4_2_12 c4_3_12 c4_4_12 c4_5_12 c5_0_12 c5_1_12 c5_2_12 c5_3_12 c5_4_12 c5_5_12 c6_0_12 c6_1_12 c6_2_12 c6_3_12 c6_4_12 c6_5_12 c7_0_12 c7_1_12 c7_2_12 c7_3_12 c7_4_12 c7_5_12 l0_12 l1_12 l2_12 l3_12 l4_12 l5_12 l6_12 l7_12
  go_wp2_with fail
  go_ret
  refine ⟨rfl, ?_⟩
  repeat (first | exact Ext.refl _ | refine Ext.alloc ?_ _ | refine Ext.set ?_ (by dsimp only; omega) _ | refine (Ext.trans ?_ (by assumption)))
set_option maxHeartbeats 8000000 in
theorem numbers_b (v F C : Int) (w : World) (G : Glob w) (U : GlobU w) (h : oddB false v = false)
    (hF : one false v (fitS (floorV v)) = ((false, F), 0)) (hC : ceilS false v = ((false, C), 0)) (hR : roundS false v = ((false, C), 0))
    (hlF : lessS false false v F = false) (hlC : lessS false false C v = false) (hne : ((C : Int) == F) = false) :
    Calls Tryz.prog 6 #[.agg #[.bool false, .int .i64 v]] w fun e w' => e = .returned (.bool true) ∧ Ext w w' := by
  have hP := back_ok v h
  have hTL := textS_len false v
  obtain ⟨T, hT⟩ : ∃ T, textS false v = T := ⟨_, rfl⟩
  have HSTR := Lib.hid fun W ab cp G' => c_string false v ab cp W G'
  rw [hT] at hP HSTR hTL
  have HNUM := Lib.hid fun W ab cp G' => c_number T false v (by omega) hP ab cp W G'
  have HFL := Lib.hid (c_floor_ok false false v F hF)
  have HCE := Lib.hid (c_ceiling_ok false false v C hC)
  have HRO := Lib.hid (c_round_ok false false v C hR)
  have HL1 := Lib.hid fun W => less_any false false v F W
  have HL2 := Lib.hid fun W => less_any false false C v W
  rw [hlF] at HL1
  rw [hlC] at HL2
  have HO := Lib.hid fun W => rodd_any false v W
  rw [h] at HO
  have U := Lib.hid U
  have G := Lib.hid G
  clear hP hT hF hC hR hlF hlC h hTL
  go_enter Tryz.func6, Tryz.ntmps6
  go_wp2_with fail
  refine (awake_any _ (G.out.alloc _) (U.out.ext ((Ext.refl w).alloc _))).mono ?_
  rintro e w1 ⟨rfl, hB1⟩
  have hz1 := hB1.size
  simp at hz1
  have l0_1 : w.heap.size < w1.heap.size := by omega
  have c0_0_1 : w1.cell? ⟨w.heap.size, 0, none⟩ = some (.bool false) := hB1.keep (by first | (simp; done) | (simp; omega)) (by simp [go_sem])
  have c0_1_1 : w1.cell? ⟨w.heap.size, 1, none⟩ = some (.int .i64 v) := hB1.keep (by first | (simp; done) | (simp; omega)) (by simp [go_sem])
  go_wp2_with fail
  refine (HO.out _).mono ?_
  rintro e w2 ⟨rfl, hB2⟩
  have hz2 := hB2.size
  have l0_2 : w.heap.size < w2.heap.size := by omega
  have c0_0_2 : w2.cell? ⟨w.heap.size, 0, none⟩ = some (.bool false) := hB2.keep (by omega) c0_0_1
  have c0_1_2 : w2.cell? ⟨w.heap.size, 1, none⟩ = some (.int .i64 v) := hB2.keep (by omega) c0_1_1
  clear c0_0_1 c0_1_1 l0_1
  go_wp2_with fail
  refine (HSTR.out _ w2.heap.size 1 (G.out.ext (by repeat (first | exact Ext.refl _ | refine Ext.alloc ?_ _ | refine Ext.set ?_ (by dsimp only; omega) _ | refine (Ext.trans ?_ (by assumption))))) (arg_lit _ _ 0 _ _ _ _ _ rfl rfl rfl rfl rfl rfl)).mono ?_
  rintro e w3 ⟨rfl, hB3⟩
  have hz3 := hB3.size
  simp at hz3
  have l0_3 : w.heap.size < w3.heap.size := by omega
  have l1_3 : w2.heap.size < w3.heap.size := by omega
  have c0_0_3 : w3.cell? ⟨w.heap.size, 0, none⟩ = some (.bool false) := hB3.keep (by first | (simp; done) | (simp; omega)) (by simp [go_sem, l0_2, c0_0_2])
  have c0_1_3 : w3.cell? ⟨w.heap.size, 1, none⟩ = some (.int .i64 v) := hB3.keep (by first | (simp; done) | (simp; omega)) (by simp [go_sem, l0_2, c0_1_2])
  have c1_0_3 : w3.cell? ⟨w2.heap.size, 0, none⟩ = some (.int .i64 3) := hB3.keep (by first | (simp; done) | (simp; omega)) (by simp [go_sem, l0_2])
  have c1_1_3 : w3.cell? ⟨w2.heap.size, 1, none⟩ = some (.slice none 0 0) := hB3.keep (by first | (simp; done) | (simp; omega)) (by simp [go_sem, l0_2])
  have c1_2_3 : w3.cell? ⟨w2.heap.size, 2, none⟩ = some (.bool false) := hB3.keep (by first | (simp; done) | (simp; omega)) (by simp [go_sem, l0_2])
  have c1_3_3 : w3.cell? ⟨w2.heap.size, 3, none⟩ = some (.bool false) := hB3.keep (by first | (simp; done) | (simp; omega)) (by simp [go_sem, l0_2])
  have c1_4_3 : w3.cell? ⟨w2.heap.size, 4, none⟩ = some (.int .i64 v) := hB3.keep (by first | (simp; done) | (simp; omega)) (by simp [go_sem, l0_2])
  have c1_5_3 : w3.cell? ⟨w2.heap.size, 5, none⟩ = some (.string ⟨#[]⟩) := hB3.keep (by first | (simp; done) | (simp; omega)) (by simp [go_sem, l0_2])
  clear c0_0_2 c0_1_2 l0_2
  go_wp2_with fail
  refine (ltext_any (bs T) _).mono ?_
  rintro e w4 ⟨rfl, hB4⟩
  have hz4 := hB4.size
  simp at hz4
  have l0_4 : w.heap.size < w4.heap.size := by omega
  have l1_4 : w2.heap.size < w4.heap.size := by omega
  have l2_4 : w3.heap.size < w4.heap.size := by omega
  have c0_0_4 : w4.cell? ⟨w.heap.size, 0, none⟩ = some (.bool false) := hB4.keep (by first | (simp; done) | (simp; omega)) (by simp [go_sem, l0_3, l1_3, c0_0_3])
  have c0_1_4 : w4.cell? ⟨w.heap.size, 1, none⟩ = some (.int .i64 v) := hB4.keep (by first | (simp; done) | (simp; omega)) (by simp [go_sem, l0_3, l1_3, c0_1_3])
  have c1_0_4 : w4.cell? ⟨w2.heap.size, 0, none⟩ = some (.int .i64 3) := hB4.keep (by first | (simp; done) | (simp; omega)) (by simp [go_sem, l0_3, l1_3, c1_0_3])
  have c1_1_4 : w4.cell? ⟨w2.heap.size, 1, none⟩ = some (.slice none 0 0) := hB4.keep (by first | (simp; done) | (simp; omega)) (by simp [go_sem, l0_3, l1_3, c1_1_3])
  have c1_2_4 : w4.cell? ⟨w2.heap.size, 2, none⟩ = some (.bool false) := hB4.keep (by first | (simp; done) | (simp; omega)) (by simp [go_sem, l0_3, l1_3, c1_2_3])
  have c1_3_4 : w4.cell? ⟨w2.heap.size, 3, none⟩ = some (.bool false) := hB4.keep (by first | (simp; done) | (simp; omega)) (by simp [go_sem, l0_3, l1_3, c1_3_3])
  have c1_4_4 : w4.cell? ⟨w2.heap.size, 4, none⟩ = some (.int .i64 v) := hB4.keep (by first | (simp; done) | (simp; omega)) (by simp [go_sem, l0_3, l1_3, c1_4_3])
  have c1_5_4 : w4.cell? ⟨w2.heap.size, 5, none⟩ = some (.string ⟨#[]⟩) := hB4.keep (by first | (simp; done) | (simp; omega)) (by simp [go_sem, l0_3, l1_3, c1_5_3])
  have c2_0_4 : w4.cell? ⟨w3.heap.size, 0, none⟩ = some (.int .i64 4) := hB4.keep (by first | (simp; done) | (simp; omega)) (by simp [go_sem, l0_3, l1_3])
  have c2_1_4 : w4.cell? ⟨w3.heap.size, 1, none⟩ = some (.slice none 0 0) := hB4.keep (by first | (simp; done) | (simp; omega)) (by simp [go_sem, l0_3, l1_3])
  have c2_2_4 : w4.cell? ⟨w3.heap.size, 2, none⟩ = some (.bool false) := hB4.keep (by first | (simp; done) | (simp; omega)) (by simp [go_sem, l0_3, l1_3])
  have c2_3_4 : w4.cell? ⟨w3.heap.size, 3, none⟩ = some (.bool false) := hB4.keep (by first | (simp; done) | (simp; omega)) (by simp [go_sem, l0_3, l1_3])
  have c2_4_4 : w4.cell? ⟨w3.heap.size, 4, none⟩ = some (.int .i64 0) := hB4.keep (by first | (simp; done) | (simp; omega)) (by simp [go_sem, l0_3, l1_3])
  have c2_5_4 : w4.cell? ⟨w3.heap.size, 5, none⟩ = some (.string (bs T)) := hB4.keep (by first | (simp; done) | (simp; omega)) (by simp [go_sem, l0_3, l1_3])
  clear c0_0_3 c0_1_3 c1_0_3 c1_1_3 c1_2_3 c1_3_3 c1_4_3 c1_5_3 l0_3 l1_3
  go_wp2_with fail
  refine (HNUM.out _ w4.heap.size 1 (G.out.ext (by repeat (first | exact Ext.refl _ | refine Ext.alloc ?_ _ | refine Ext.set ?_ (by dsimp only; omega) _ | refine (Ext.trans ?_ (by assumption))))) (arg_lit _ _ 0 _ _ _ _ _ rfl rfl rfl rfl rfl rfl)).mono ?_
  rintro e w5 ⟨rfl, hB5⟩
  have hz5 := hB5.size
  simp at hz5
  have l0_5 : w.heap.size < w5.heap.size := by omega
  have l1_5 : w2.heap.size < w5.heap.size := by omega
  have l2_5 : w3.heap.size < w5.heap.size := by omega
  have l3_5 : w4.heap.size < w5.heap.size := by omega
  have c0_0_5 : w5.cell? ⟨w.heap.size, 0, none⟩ = some (.bool false) := hB5.keep (by first | (simp; done) | (simp; omega)) (by simp [go_sem, l0_4, l1_4, l2_4, c0_0_4])
  have c0_1_5 : w5.cell? ⟨w.heap.size, 1, none⟩ = some (.int .i64 v) := hB5.keep (by first | (simp; done) | (simp; omega)) (by simp [go_sem, l0_4, l1_4, l2_4, c0_1_4])
  have c1_0_5 : w5.cell? ⟨w2.heap.size, 0, none⟩ = some (.int .i64 3) := hB5.keep (by first | (simp; done) | (simp; omega)) (by simp [go_sem, l0_4, l1_4, l2_4, c1_0_4])
  have c1_1_5 : w5.cell? ⟨w2.heap.size, 1, none⟩ = some (.slice none 0 0) := hB5.keep (by first | (simp; done) | (simp; omega)) (by simp [go_sem, l0_4, l1_4, l2_4, c1_1_4])
  have c1_2_5 : w5.cell? ⟨w2.heap.size, 2, none⟩ = some (.bool false) := hB5.keep (by first | (simp; done) | (simp; omega)) (by simp [go_sem, l0_4, l1_4, l2_4, c1_2_4])
  have c1_3_5 : w5.cell? ⟨w2.heap.size, 3, none⟩ = some (.bool false) := hB5.keep (by first | (simp; done) | (simp; omega)) (by simp [go_sem, l0_4, l1_4, l2_4, c1_3_4])
  have c1_4_5 : w5.cell? ⟨w2.heap.size, 4, none⟩ = some (.int .i64 v) := hB5.keep (by first | (simp; done) | (simp; omega)) (by simp [go_sem, l0_4, l1_4, l2_4, c1_4_4])
  have c1_5_5 : w5.cell? ⟨w2.heap.size, 5, none⟩ = some (.string ⟨#[]⟩) := hB5.keep (by first | (simp; done) | (simp; omega)) (by simp [go_sem, l0_4, l1_4, l2_4, c1_5_4])
  have c2_0_5 : w5.cell? ⟨w3.heap.size, 0, none⟩ = some (.int .i64 4) := hB5.keep (by first | (simp; done) | (simp; omega)) (by simp [go_sem, l0_4, l1_4, l2_4, c2_0_4])
  have c2_1_5 : w5.cell? ⟨w3.heap.size, 1, none⟩ = some (.slice none 0 0) := hB5.keep (by first | (simp; done) | (simp; omega)) (by simp [go_sem, l0_4, l1_4, l2_4, c2_1_4])
  have c2_2_5 : w5.cell? ⟨w3.heap.size, 2, none⟩ = some (.bool false) := hB5.keep (by first | (simp; done) | (simp; omega)) (by simp [go_sem, l0_4, l1_4, l2_4, c2_2_4])
  have c2_3_5 : w5.cell? ⟨w3.heap.size, 3, none⟩ = some (.bool false) := hB5.keep (by first | (simp; done) | (simp; omega)) (by simp [go_sem, l0_4, l1_4, l2_4, c2_3_4])
  have c2_4_5 : w5.cell? ⟨w3.heap.size, 4, none⟩ = some (.int .i64 0) := hB5.keep (by first | (simp; done) | (simp; omega)) (by simp [go_sem, l0_4, l1_4, l2_4, c2_4_4])
  have c2_5_5 : w5.cell? ⟨w3.heap.size, 5, none⟩ = some (.string (bs T)) := hB5.keep (by first | (simp; done) | (simp; omega)) (by simp [go_sem, l0_4, l1_4, l2_4, c2_5_4])
  have c3_0_5 : w5.cell? ⟨w4.heap.size, 0, none⟩ = some (.int .i64 4) := hB5.keep (by first | (simp; done) | (simp; omega)) (by simp [go_sem, l0_4, l1_4, l2_4])
  have c3_1_5 : w5.cell? ⟨w4.heap.size, 1, none⟩ = some (.slice none 0 0) := hB5.keep (by first | (simp; done) | (simp; omega)) (by simp [go_sem, l0_4, l1_4, l2_4])
  have c3_2_5 : w5.cell? ⟨w4.heap.size, 2, none⟩ = some (.bool false) := hB5.keep (by first | (simp; done) | (simp; omega)) (by simp [go_sem, l0_4, l1_4, l2_4])
  have c3_3_5 : w5.cell? ⟨w4.heap.size, 3, none⟩ = some (.bool false) := hB5.keep (by first | (simp; done) | (simp; omega)) (by simp [go_sem, l0_4, l1_4, l2_4])
  have c3_4_5 : w5.cell? ⟨w4.heap.size, 4, none⟩ = some (.int .i64 0) := hB5.keep (by first | (simp; done) | (simp; omega)) (by simp [go_sem, l0_4, l1_4, l2_4])
  have c3_5_5 : w5.cell? ⟨w4.heap.size, 5, none⟩ = some (.string (bs T)) := hB5.keep (by first | (simp; done) | (simp; omega)) (by simp [go_sem, l0_4, l1_4, l2_4])
  clear c0_0_4 c0_1_4 c1_0_4 c1_1_4 c1_2_4 c1_3_4 c1_4_4 c1_5_4 c2_0_4 c2_1_4 c2_2_4 c2_3_4 c2_4_4 c2_5_4 l0_4 l1_4 l2_4
  go_wp2_with fail
  obtain ⟨w6, hW6⟩ : ∃ wz, (w5.alloc (.cells #[.int .i64 3, .slice none 0 0, .bool false, .bool false, .int .i64 v, .string ⟨#[]⟩] 28)) = wz := ⟨_, rfl⟩
  rw [hW6]
  have hB6 : Ext (w5.alloc (.cells #[.int .i64 3, .slice none 0 0, .bool false, .bool false, .int .i64 v, .string ⟨#[]⟩] 28)) w6 := by rw [hW6]; exact Ext.refl _
  clear hW6
  have hz6 := hB6.size
  simp at hz6
  have l0_6 : w.heap.size < w6.heap.size := by omega
  have l1_6 : w2.heap.size < w6.heap.size := by omega
  have l2_6 : w3.heap.size < w6.heap.size := by omega
  have l3_6 : w4.heap.size < w6.heap.size := by omega
  have l4_6 : w5.heap.size < w6.heap.size := by omega
  have c0_0_6 : w6.cell? ⟨w.heap.size, 0, none⟩ = some (.bool false) := hB6.keep (by first | (simp; done) | (simp; omega)) (by simp [go_sem, l0_5, l1_5, l2_5, l3_5, c0_0_5])
  have c0_1_6 : w6.cell? ⟨w.heap.size, 1, none⟩ = some (.int .i64 v) := hB6.keep (by first | (simp; done) | (simp; omega)) (by simp [go_sem, l0_5, l1_5, l2_5, l3_5, c0_1_5])
  have c1_0_6 : w6.cell? ⟨w2.heap.size, 0, none⟩ = some (.int .i64 3) := hB6.keep (by first | (simp; done) | (simp; omega)) (by simp [go_sem, l0_5, l1_5, l2_5, l3_5, c1_0_5])
  have c1_1_6 : w6.cell? ⟨w2.heap.size, 1, none⟩ = some (.slice none 0 0) := hB6.keep (by first | (simp; done) | (simp; omega)) (by simp [go_sem, l0_5, l1_5, l2_5, l3_5, c1_1_5])
  have c1_2_6 : w6.cell? ⟨w2.heap.size, 2, none⟩ = some (.bool false) := hB6.keep (by first | (simp; done) | (simp; omega)) (by simp [go_sem, l0_5, l1_5, l2_5, l3_5, c1_2_5])
  have c1_3_6 : w6.cell? ⟨w2.heap.size, 3, none⟩ = some (.bool false) := hB6.keep (by first | (simp; done) | (simp; omega)) (by simp [go_sem, l0_5, l1_5, l2_5, l3_5, c1_3_5])
  have c1_4_6 : w6.cell? ⟨w2.heap.size, 4, none⟩ = some (.int .i64 v) := hB6.keep (by first | (simp; done) | (simp; omega)) (by simp [go_sem, l0_5, l1_5, l2_5, l3_5, c1_4_5])
  have c1_5_6 : w6.cell? ⟨w2.heap.size, 5, none⟩ = some (.string ⟨#[]⟩) := hB6.keep (by first | (simp; done) | (simp; omega)) (by simp [go_sem, l0_5, l1_5, l2_5, l3_5, c1_5_5])
  have c2_0_6 : w6.cell? ⟨w3.heap.size, 0, none⟩ = some (.int .i64 4) := hB6.keep (by first | (simp; done) | (simp; omega)) (by simp [go_sem, l0_5, l1_5, l2_5, l3_5, c2_0_5])
  have c2_1_6 : w6.cell? ⟨w3.heap.size, 1, none⟩ = some (.slice none 0 0) := hB6.keep (by first | (simp; done) | (simp; omega)) (by simp [go_sem, l0_5, l1_5, l2_5, l3_5, c2_1_5])
  have c2_2_6 : w6.cell? ⟨w3.heap.size, 2, none⟩ = some (.bool false) := hB6.keep (by first | (simp; done) | (simp; omega)) (by simp [go_sem, l0_5, l1_5, l2_5, l3_5, c2_2_5])
  have c2_3_6 : w6.cell? ⟨w3.heap.size, 3, none⟩ = some (.bool false) := hB6.keep (by first | (simp; done) | (simp; omega)) (by simp [go_sem, l0_5, l1_5, l2_5, l3_5, c2_3_5])
  have c2_4_6 : w6.cell? ⟨w3.heap.size, 4, none⟩ = some (.int .i64 0) := hB6.keep (by first | (simp; done) | (simp; omega)) (by simp [go_sem, l0_5, l1_5, l2_5, l3_5, c2_4_5])
  have c2_5_6 : w6.cell? ⟨w3.heap.size, 5, none⟩ = some (.string (bs T)) := hB6.keep (by first | (simp; done) | (simp; omega)) (by simp [go_sem, l0_5, l1_5, l2_5, l3_5, c2_5_5])
  have c3_0_6 : w6.cell? ⟨w4.heap.size, 0, none⟩ = some (.int .i64 4) := hB6.keep (by first | (simp; done) | (simp; omega)) (by simp [go_sem, l0_5, l1_5, l2_5, l3_5, c3_0_5])
  have c3_1_6 : w6.cell? ⟨w4.heap.size, 1, none⟩ = some (.slice none 0 0) := hB6.keep (by first | (simp; done) | (simp; omega)) (by simp [go_sem, l0_5, l1_5, l2_5, l3_5, c3_1_5])
  have c3_2_6 : w6.cell? ⟨w4.heap.size, 2, none⟩ = some (.bool false) := hB6.keep (by first | (simp; done) | (simp; omega)) (by simp [go_sem, l0_5, l1_5, l2_5, l3_5, c3_2_5])
  have c3_3_6 : w6.cell? ⟨w4.heap.size, 3, none⟩ = some (.bool false) := hB6.keep (by first | (simp; done) | (simp; omega)) (by simp [go_sem, l0_5, l1_5, l2_5, l3_5, c3_3_5])
  have c3_4_6 : w6.cell? ⟨w4.heap.size, 4, none⟩ = some (.int .i64 0) := hB6.keep (by first | (simp; done) | (simp; omega)) (by simp [go_sem, l0_5, l1_5, l2_5, l3_5, c3_4_5])
  have c3_5_6 : w6.cell? ⟨w4.heap.size, 5, none⟩ = some (.string (bs T)) := hB6.keep (by first | (simp; done) | (simp; omega)) (by simp [go_sem, l0_5, l1_5, l2_5, l3_5, c3_5_5])
  have c4_0_6 : w6.cell? ⟨w5.heap.size, 0, none⟩ = some (.int .i64 3) := hB6.keep (by first | (simp; done) | (simp; omega)) (by simp [go_sem, l0_5, l1_5, l2_5, l3_5])
  have c4_1_6 : w6.cell? ⟨w5.heap.size, 1, none⟩ = some (.slice none 0 0) := hB6.keep (by first | (simp; done) | (simp; omega)) (by simp [go_sem, l0_5, l1_5, l2_5, l3_5])
  have c4_2_6 : w6.cell? ⟨w5.heap.size, 2, none⟩ = some (.bool false) := hB6.keep (by first | (simp; done) | (simp; omega)) (by simp [go_sem, l0_5, l1_5, l2_5, l3_5])
  have c4_3_6 : w6.cell? ⟨w5.heap.size, 3, none⟩ = some (.bool false) := hB6.keep (by first | (simp; done) | (simp; omega)) (by simp [go_sem, l0_5, l1_5, l2_5, l3_5])
  have c4_4_6 : w6.cell? ⟨w5.heap.size, 4, none⟩ = some (.int .i64 v) := hB6.keep (by first | (simp; done) | (simp; omega)) (by simp [go_sem, l0_5, l1_5, l2_5, l3_5])
  have c4_5_6 : w6.cell? ⟨w5.heap.size, 5, none⟩ = some (.string ⟨#[]⟩) := hB6.keep (by first | (simp; done) | (simp; omega)) (by simp [go_sem, l0_5, l1_5, l2_5, l3_5])
  clear c0_0_5 c0_1_5 c1_0_5 c1_1_5 c1_2_5 c1_3_5 c1_4_5 c1_5_5 c2_0_5 c2_1_5 c2_2_5 c2_3_5 c2_4_5 c2_5_5 c3_0_5 c3_1_5 c3_2_5 c3_3_5 c3_4_5 c3_5_5 l0_5 l1_5 l2_5 l3_5
  go_wp2_with fail
  refine (HFL.out w2.heap.size 1 _ ⟨l1_6, c1_0_6, c1_1_6, c1_2_6, c1_3_6, c1_4_6, c1_5_6⟩).mono ?_
  rintro e w7 ⟨rfl, hB7⟩
  have hz7 := hB7.size
  have l0_7 : w.heap.size < w7.heap.size := by omega
  have l1_7 : w2.heap.size < w7.heap.size := by omega
  have l2_7 : w3.heap.size < w7.heap.size := by omega
  have l3_7 : w4.heap.size < w7.heap.size := by omega
  have l4_7 : w5.heap.size < w7.heap.size := by omega
  have c0_0_7 : w7.cell? ⟨w.heap.size, 0, none⟩ = some (.bool false) := hB7.keep (by omega) c0_0_6
  have c0_1_7 : w7.cell? ⟨w.heap.size, 1, none⟩ = some (.int .i64 v) := hB7.keep (by omega) c0_1_6
  have c1_0_7 : w7.cell? ⟨w2.heap.size, 0, none⟩ = some (.int .i64 3) := hB7.keep (by omega) c1_0_6
  have c1_1_7 : w7.cell? ⟨w2.heap.size, 1, none⟩ = some (.slice none 0 0) := hB7.keep (by omega) c1_1_6
  have c1_2_7 : w7.cell? ⟨w2.heap.size, 2, none⟩ = some (.bool false) := hB7.keep (by omega) c1_2_6
  have c1_3_7 : w7.cell? ⟨w2.heap.size, 3, none⟩ = some (.bool false) := hB7.keep (by omega) c1_3_6
  have c1_4_7 : w7.cell? ⟨w2.heap.size, 4, none⟩ = some (.int .i64 v) := hB7.keep (by omega) c1_4_6
  have c1_5_7 : w7.cell? ⟨w2.heap.size, 5, none⟩ = some (.string ⟨#[]⟩) := hB7.keep (by omega) c1_5_6
  have c2_0_7 : w7.cell? ⟨w3.heap.size, 0, none⟩ = some (.int .i64 4) := hB7.keep (by omega) c2_0_6
  have c2_1_7 : w7.cell? ⟨w3.heap.size, 1, none⟩ = some (.slice none 0 0) := hB7.keep (by omega) c2_1_6
  have c2_2_7 : w7.cell? ⟨w3.heap.size, 2, none⟩ = some (.bool false) := hB7.keep (by omega) c2_2_6
  have c2_3_7 : w7.cell? ⟨w3.heap.size, 3, none⟩ = some (.bool false) := hB7.keep (by omega) c2_3_6
  have c2_4_7 : w7.cell? ⟨w3.heap.size, 4, none⟩ = some (.int .i64 0) := hB7.keep (by omega) c2_4_6
  have c2_5_7 : w7.cell? ⟨w3.heap.size, 5, none⟩ = some (.string (bs T)) := hB7.keep (by omega) c2_5_6
  have c3_0_7 : w7.cell? ⟨w4.heap.size, 0, none⟩ = some (.int .i64 4) := hB7.keep (by omega) c3_0_6
  have c3_1_7 : w7.cell? ⟨w4.heap.size, 1, none⟩ = some (.slice none 0 0) := hB7.keep (by omega) c3_1_6
  have c3_2_7 : w7.cell? ⟨w4.heap.size, 2, none⟩ = some (.bool false) := hB7.keep (by omega) c3_2_6
  have c3_3_7 : w7.cell? ⟨w4.heap.size, 3, none⟩ = some (.bool false) := hB7.keep (by omega) c3_3_6
  have c3_4_7 : w7.cell? ⟨w4.heap.size, 4, none⟩ = some (.int .i64 0) := hB7.keep (by omega) c3_4_6
  have c3_5_7 : w7.cell? ⟨w4.heap.size, 5, none⟩ = some (.string (bs T)) := hB7.keep (by omega) c3_5_6
  have c4_0_7 : w7.cell? ⟨w5.heap.size, 0, none⟩ = some (.int .i64 3) := hB7.keep (by omega) c4_0_6
  have c4_1_7 : w7.cell? ⟨w5.heap.size, 1, none⟩ = some (.slice none 0 0) := hB7.keep (by omega) c4_1_6
  have c4_2_7 : w7.cell? ⟨w5.heap.size, 2, none⟩ = some (.bool false) := hB7.keep (by omega) c4_2_6
  have c4_3_7 : w7.cell? ⟨w5.heap.size, 3, none⟩ = some (.bool false) := hB7.keep (by omega) c4_3_6
  have c4_4_7 : w7.cell? ⟨w5.heap.size, 4, none⟩ = some (.int .i64 v) := hB7.keep (by omega) c4_4_6
  have c4_5_7 : w7.cell? ⟨w5.heap.size, 5, none⟩ = some (.string ⟨#[]⟩) := hB7.keep (by omega) c4_5_6
  clear c0_0_6 c0_1_6 c1_0_6 c1_1_6 c1_2_6 c1_3_6 c1_4_6 c1_5_6 c2_0_6 c2_1_6 c2_2_6 c2_3_6 c2_4_6 c2_5_6 c3_0_6 c3_1_6 c3_2_6 c3_3_6 c3_4_6 c3_5_6 c4_0_6 c4_1_6 c4_2_6 c4_3_6 c4_4_6 c4_5_6 l0_6 l1_6 l2_6 l3_6 l4_6
  go_wp2_with fail
  obtain ⟨w8, hW8⟩ : ∃ wz, (w7.alloc (.cells #[.int .i64 3, .slice none 0 0, .bool false, .bool false, .int .i64 F, .string ⟨#[]⟩] 28)) = wz := ⟨_, rfl⟩
  rw [hW8]
  have hB8 : Ext (w7.alloc (.cells #[.int .i64 3, .slice none 0 0, .bool false, .bool false, .int .i64 F, .string ⟨#[]⟩] 28)) w8 := by rw [hW8]; exact Ext.refl _
  clear hW8
  have hz8 := hB8.size
  simp at hz8
  have l0_8 : w.heap.size < w8.heap.size := by omega
  have l1_8 : w2.heap.size < w8.heap.size := by omega
  have l2_8 : w3.heap.size < w8.heap.size := by omega
  have l3_8 : w4.heap.size < w8.heap.size := by omega
  have l4_8 : w5.heap.size < w8.heap.size := by omega
  have l5_8 : w7.heap.size < w8.heap.size := by omega
  have c0_0_8 : w8.cell? ⟨w.heap.size, 0, none⟩ = some (.bool false) := hB8.keep (by first | (simp; done) | (simp; omega)) (by simp [go_sem, l0_7, l1_7, l2_7, l3_7, l4_7, c0_0_7])
  have c0_1_8 : w8.cell? ⟨w.heap.size, 1, none⟩ = some (.int .i64 v) := hB8.keep (by first | (simp; done) | (simp; omega)) (by simp [go_sem, l0_7, l1_7, l2_7, l3_7, l4_7, c0_1_7])
  have c1_0_8 : w8.cell? ⟨w2.heap.size, 0, none⟩ = some (.int .i64 3) := hB8.keep (by first | (simp; done) | (simp; omega)) (by simp [go_sem, l0_7, l1_7, l2_7, l3_7, l4_7, c1_0_7])
  have c1_1_8 : w8.cell? ⟨w2.heap.size, 1, none⟩ = some (.slice none 0 0) := hB8.keep (by first | (simp; done) | (simp; omega)) (by simp [go_sem, l0_7, l1_7, l2_7, l3_7, l4_7, c1_1_7])
  have c1_2_8 : w8.cell? ⟨w2.heap.size, 2, none⟩ = some (.bool false) := hB8.keep (by first | (simp; done) | (simp; omega)) (by simp [go_sem, l0_7, l1_7, l2_7, l3_7, l4_7, c1_2_7])
  have c1_3_8 : w8.cell? ⟨w2.heap.size, 3, none⟩ = some (.bool false) := hB8.keep (by first | (simp; done) | (simp; omega)) (by simp [go_sem, l0_7, l1_7, l2_7, l3_7, l4_7, c1_3_7])
  have c1_4_8 : w8.cell? ⟨w2.heap.size, 4, none⟩ = some (.int .i64 v) := hB8.keep (by first | (simp; done) | (simp; omega)) (by simp [go_sem, l0_7, l1_7, l2_7, l3_7, l4_7, c1_4_7])
  have c1_5_8 : w8.cell? ⟨w2.heap.size, 5, none⟩ = some (.string ⟨#[]⟩) := hB8.keep (by first | (simp; done) | (simp; omega)) (by simp [go_sem, l0_7, l1_7, l2_7, l3_7, l4_7, c1_5_7])
  have c2_0_8 : w8.cell? ⟨w3.heap.size, 0, none⟩ = some (.int .i64 4) := hB8.keep (by first | (simp; done) | (simp; omega)) (by simp [go_sem, l0_7, l1_7, l2_7, l3_7, l4_7, c2_0_7])
  have c2_1_8 : w8.cell? ⟨w3.heap.size, 1, none⟩ = some (.slice none 0 0) := hB8.keep (by first | (simp; done) | (simp; omega)) (by simp [go_sem, l0_7, l1_7, l2_7, l3_7, l4_7, c2_1_7])
  have c2_2_8 : w8.cell? ⟨w3.heap.size, 2, none⟩ = some (.bool false) := hB8.keep (by first | (simp; done) | (simp; omega)) (by simp [go_sem, l0_7, l1_7, l2_7, l3_7, l4_7, c2_2_7])
  have c2_3_8 : w8.cell? ⟨w3.heap.size, 3, none⟩ = some (.bool false) := hB8.keep (by first | (simp; done) | (simp; omega)) (by simp [go_sem, l0_7, l1_7, l2_7, l3_7, l4_7, c2_3_7])
  have c2_4_8 : w8.cell? ⟨w3.heap.size, 4, none⟩ = some (.int .i64 0) := hB8.keep (by first | (simp; done) | (simp; omega)) (by simp [go_sem, l0_7, l1_7, l2_7, l3_7, l4_7, c2_4_7])
  have c2_5_8 : w8.cell? ⟨w3.heap.size, 5, none⟩ = some (.string (bs T)) := hB8.keep (by first | (simp; done) | (simp; omega)) (by simp [go_sem, l0_7, l1_7, l2_7, l3_7, l4_7, c2_5_7])
  have c3_0_8 : w8.cell? ⟨w4.heap.size, 0, none⟩ = some (.int .i64 4) := hB8.keep (by first | (simp; done) | (simp; omega)) (by simp [go_sem, l0_7, l1_7, l2_7, l3_7, l4_7, c3_0_7])
  have c3_1_8 : w8.cell? ⟨w4.heap.size, 1, none⟩ = some (.slice none 0 0) := hB8.keep (by first | (simp; done) | (simp; omega)) (by simp [go_sem, l0_7, l1_7, l2_7, l3_7, l4_7, c3_1_7])
  have c3_2_8 : w8.cell? ⟨w4.heap.size, 2, none⟩ = some (.bool false) := hB8.keep (by first | (simp; done) | (simp; omega)) (by simp [go_sem, l0_7, l1_7, l2_7, l3_7, l4_7, c3_2_7])
  have c3_3_8 : w8.cell? ⟨w4.heap.size, 3, none⟩ = some (.bool false) := hB8.keep (by first | (simp; done) | (simp; omega)) (by simp [go_sem, l0_7, l1_7, l2_7, l3_7, l4_7, c3_3_7])
  have c3_4_8 : w8.cell? ⟨w4.heap.size, 4, none⟩ = some (.int .i64 0) := hB8.keep (by first | (simp; done) | (simp; omega)) (by simp [go_sem, l0_7, l1_7, l2_7, l3_7, l4_7, c3_4_7])
  have c3_5_8 : w8.cell? ⟨w4.heap.size, 5, none⟩ = some (.string (bs T)) := hB8.keep (by first | (simp; done) | (simp; omega)) (by simp [go_sem, l0_7, l1_7, l2_7, l3_7, l4_7, c3_5_7])
  have c4_0_8 : w8.cell? ⟨w5.heap.size, 0, none⟩ = some (.int .i64 3) := hB8.keep (by first | (simp; done) | (simp; omega)) (by simp [go_sem, l0_7, l1_7, l2_7, l3_7, l4_7, c4_0_7])
  have c4_1_8 : w8.cell? ⟨w5.heap.size, 1, none⟩ = some (.slice none 0 0) := hB8.keep (by first | (simp; done) | (simp; omega)) (by simp [go_sem, l0_7, l1_7, l2_7, l3_7, l4_7, c4_1_7])
  have c4_2_8 : w8.cell? ⟨w5.heap.size, 2, none⟩ = some (.bool false) := hB8.keep (by first | (simp; done) | (simp; omega)) (by simp [go_sem, l0_7, l1_7, l2_7, l3_7, l4_7, c4_2_7])
  have c4_3_8 : w8.cell? ⟨w5.heap.size, 3, none⟩ = some (.bool false) := hB8.keep (by first | (simp; done) | (simp; omega)) (by simp [go_sem, l0_7, l1_7, l2_7, l3_7, l4_7, c4_3_7])
  have c4_4_8 : w8.cell? ⟨w5.heap.size, 4, none⟩ = some (.int .i64 v) := hB8.keep (by first | (simp; done) | (simp; omega)) (by simp [go_sem, l0_7, l1_7, l2_7, l3_7, l4_7, c4_4_7])
  have c4_5_8 : w8.cell? ⟨w5.heap.size, 5, none⟩ = some (.string ⟨#[]⟩) := hB8.keep (by first | (simp; done) | (simp; omega)) (by simp [go_sem, l0_7, l1_7, l2_7, l3_7, l4_7, c4_5_7])
  have c5_0_8 : w8.cell? ⟨w7.heap.size, 0, none⟩ = some (.int .i64 3) := hB8.keep (by first | (simp; done) | (simp; omega)) (by simp [go_sem, l0_7, l1_7, l2_7, l3_7, l4_7])
  have c5_1_8 : w8.cell? ⟨w7.heap.size, 1, none⟩ = some (.slice none 0 0) := hB8.keep (by first | (simp; done) | (simp; omega)) (by simp [go_sem, l0_7, l1_7, l2_7, l3_7, l4_7])
  have c5_2_8 : w8.cell? ⟨w7.heap.size, 2, none⟩ = some (.bool false) := hB8.keep (by first | (simp; done) | (simp; omega)) (by simp [go_sem, l0_7, l1_7, l2_7, l3_7, l4_7])
  have c5_3_8 : w8.cell? ⟨w7.heap.size, 3, none⟩ = some (.bool false) := hB8.keep (by first | (simp; done) | (simp; omega)) (by simp [go_sem, l0_7, l1_7, l2_7, l3_7, l4_7])
  have c5_4_8 : w8.cell? ⟨w7.heap.size, 4, none⟩ = some (.int .i64 F) := hB8.keep (by first | (simp; done) | (simp; omega)) (by simp [go_sem, l0_7, l1_7, l2_7, l3_7, l4_7])
  have c5_5_8 : w8.cell? ⟨w7.heap.size, 5, none⟩ = some (.string ⟨#[]⟩) := hB8.keep (by first | (simp; done) | (simp; omega)) (by simp [go_sem, l0_7, l1_7, l2_7, l3_7, l4_7])
  clear c0_0_7 c0_1_7 c1_0_7 c1_1_7 c1_2_7 c1_3_7 c1_4_7 c1_5_7 c2_0_7 c2_1_7 c2_2_7 c2_3_7 c2_4_7 c2_5_7 c3_0_7 c3_1_7 c3_2_7 c3_3_7 c3_4_7 c3_5_7 c4_0_7 c4_1_7 c4_2_7 c4_3_7 c4_4_7 c4_5_7 l0_7 l1_7 l2_7 l3_7 l4_7
  go_wp2_with fail
  refine (HCE.out w2.heap.size 1 _ ⟨l1_8, c1_0_8, c1_1_8, c1_2_8, c1_3_8, c1_4_8, c1_5_8⟩).mono ?_
  rintro e w9 ⟨rfl, hB9⟩
  have hz9 := hB9.size
  have l0_9 : w.heap.size < w9.heap.size := by omega
  have l1_9 : w2.heap.size < w9.heap.size := by omega
  have l2_9 : w3.heap.size < w9.heap.size := by omega
  have l3_9 : w4.heap.size < w9.heap.size := by omega
  have l4_9 : w5.heap.size < w9.heap.size := by omega
  have l5_9 : w7.heap.size < w9.heap.size := by omega
  have c0_0_9 : w9.cell? ⟨w.heap.size, 0, none⟩ = some (.bool false) := hB9.keep (by omega) c0_0_8
  have c0_1_9 : w9.cell? ⟨w.heap.size, 1, none⟩ = some (.int .i64 v) := hB9.keep (by omega) c0_1_8
  have c1_0_9 : w9.cell? ⟨w2.heap.size, 0, none⟩ = some (.int .i64 3) := hB9.keep (by omega) c1_0_8
  have c1_1_9 : w9.cell? ⟨w2.heap.size, 1, none⟩ = some (.slice none 0 0) := hB9.keep (by omega) c1_1_8
  have c1_2_9 : w9.cell? ⟨w2.heap.size, 2, none⟩ = some (.bool false) := hB9.keep (by omega) c1_2_8
  have c1_3_9 : w9.cell? ⟨w2.heap.size, 3, none⟩ = some (.bool false) := hB9.keep (by omega) c1_3_8
  have c1_4_9 : w9.cell? ⟨w2.heap.size, 4, none⟩ = some (.int .i64 v) := hB9.keep (by omega) c1_4_8
  have c1_5_9 : w9.cell? ⟨w2.heap.size, 5, none⟩ = some (.string ⟨#[]⟩) := hB9.keep (by omega) c1_5_8
  have c2_0_9 : w9.cell? ⟨w3.heap.size, 0, none⟩ = some (.int .i64 4) := hB9.keep (by omega) c2_0_8
  have c2_1_9 : w9.cell? ⟨w3.heap.size, 1, none⟩ = some (.slice none 0 0) := hB9.keep (by omega) c2_1_8
  have c2_2_9 : w9.cell? ⟨w3.heap.size, 2, none⟩ = some (.bool false) := hB9.keep (by omega) c2_2_8
  have c2_3_9 : w9.cell? ⟨w3.heap.size, 3, none⟩ = some (.bool false) := hB9.keep (by omega) c2_3_8
  have c2_4_9 : w9.cell? ⟨w3.heap.size, 4, none⟩ = some (.int .i64 0) := hB9.keep (by omega) c2_4_8
  have c2_5_9 : w9.cell? ⟨w3.heap.size, 5, none⟩ = some (.string (bs T)) := hB9.keep (by omega) c2_5_8
  have c3_0_9 : w9.cell? ⟨w4.heap.size, 0, none⟩ = some (.int .i64 4) := hB9.keep (by omega) c3_0_8
  have c3_1_9 : w9.cell? ⟨w4.heap.size, 1, none⟩ = some (.slice none 0 0) := hB9.keep (by omega) c3_1_8
  have c3_2_9 : w9.cell? ⟨w4.heap.size, 2, none⟩ = some (.bool false) := hB9.keep (by omega) c3_2_8
  have c3_3_9 : w9.cell? ⟨w4.heap.size, 3, none⟩ = some (.bool false) := hB9.keep (by omega) c3_3_8
  have c3_4_9 : w9.cell? ⟨w4.heap.size, 4, none⟩ = some (.int .i64 0) := hB9.keep (by omega) c3_4_8
  have c3_5_9 : w9.cell? ⟨w4.heap.size, 5, none⟩ = some (.string (bs T)) := hB9.keep (by omega) c3_5_8
  have c4_0_9 : w9.cell? ⟨w5.heap.size, 0, none⟩ = some (.int .i64 3) := hB9.keep (by omega) c4_0_8
  have c4_1_9 : w9.cell? ⟨w5.heap.size, 1, none⟩ = some (.slice none 0 0) := hB9.keep (by omega) c4_1_8
  have c4_2_9 : w9.cell? ⟨w5.heap.size, 2, none⟩ = some (.bool false) := hB9.keep (by omega) c4_2_8
  have c4_3_9 : w9.cell? ⟨w5.heap.size, 3, none⟩ = some (.bool false) := hB9.keep (by omega) c4_3_8
  have c4_4_9 : w9.cell? ⟨w5.heap.size, 4, none⟩ = some (.int .i64 v) := hB9.keep (by omega) c4_4_8
  have c4_5_9 : w9.cell? ⟨w5.heap.size, 5, none⟩ = some (.string ⟨#[]⟩) := hB9.keep (by omega) c4_5_8
  have c5_0_9 : w9.cell? ⟨w7.heap.size, 0, none⟩ = some (.int .i64 3) := hB9.keep (by omega) c5_0_8
  have c5_1_9 : w9.cell? ⟨w7.heap.size, 1, none⟩ = some (.slice none 0 0) := hB9.keep (by omega) c5_1_8
  have c5_2_9 : w9.cell? ⟨w7.heap.size, 2, none⟩ = some (.bool false) := hB9.keep (by omega) c5_2_8
  have c5_3_9 : w9.cell? ⟨w7.heap.size, 3, none⟩ = some (.bool false) := hB9.keep (by omega) c5_3_8
  have c5_4_9 : w9.cell? ⟨w7.heap.size, 4, none⟩ = some (.int .i64 F) := hB9.keep (by omega) c5_4_8
  have c5_5_9 : w9.cell? ⟨w7.heap.size, 5, none⟩ = some (.string ⟨#[]⟩) := hB9.keep (by omega) c5_5_8
  clear c0_0_8 c0_1_8 c1_0_8 c1_1_8 c1_2_8 c1_3_8 c1_4_8 c1_5_8 c2_0_8 c2_1_8 c2_2_8 c2_3_8 c2_4_8 c2_5_8 c3_0_8 c3_1_8 c3_2_8 c3_3_8 c3_4_8 c3_5_8 c4_0_8 c4_1_8 c4_2_8 c4_3_8 c4_4_8 c4_5_8 c5_0_8 c5_1_8 c5_2_8 c5_3_8 c5_4_8 c5_5_8 l0_8 l1_8 l2_8 l3_8 l4_8 l5_8
  go_wp2_with fail
  obtain ⟨w10, hW10⟩ : ∃ wz, (w9.alloc (.cells #[.int .i64 3, .slice none 0 0, .bool false, .bool false, .int .i64 C, .string ⟨#[]⟩] 28)) = wz := ⟨_, rfl⟩
  rw [hW10]
  have hB10 : Ext (w9.alloc (.cells #[.int .i64 3, .slice none 0 0, .bool false, .bool false, .int .i64 C, .string ⟨#[]⟩] 28)) w10 := by rw [hW10]; exact Ext.refl _
  clear hW10
  have hz10 := hB10.size
  simp at hz10
  have l0_10 : w.heap.size < w10.heap.size := by omega
  have l1_10 : w2.heap.size < w10.heap.size := by omega
  have l2_10 : w3.heap.size < w10.heap.size := by omega
  have l3_10 : w4.heap.size < w10.heap.size := by omega
  have l4_10 : w5.heap.size < w10.heap.size := by omega
  have l5_10 : w7.heap.size < w10.heap.size := by omega
  have l6_10 : w9.heap.size < w10.heap.size := by omega
  have c0_0_10 : w10.cell? ⟨w.heap.size, 0, none⟩ = some (.bool false) := hB10.keep (by first | (simp; done) | (simp; omega)) (by simp [go_sem, l0_9, l1_9, l2_9, l3_9, l4_9, l5_9, c0_0_9])
  have c0_1_10 : w10.cell? ⟨w.heap.size, 1, none⟩ = some (.int .i64 v) := hB10.keep (by first | (simp; done) | (simp; omega)) (by simp [go_sem, l0_9, l1_9, l2_9, l3_9, l4_9, l5_9, c0_1_9])
  have c1_0_10 : w10.cell? ⟨w2.heap.size, 0, none⟩ = some (.int .i64 3) := hB10.keep (by first | (simp; done) | (simp; omega)) (by simp [go_sem, l0_9, l1_9, l2_9, l3_9, l4_9, l5_9, c1_0_9])
  have c1_1_10 : w10.cell? ⟨w2.heap.size, 1, none⟩ = some (.slice none 0 0) := hB10.keep (by first | (simp; done) | (simp; omega)) (by simp [go_sem, l0_9, l1_9, l2_9, l3_9, l4_9, l5_9, c1_1_9])
  have c1_2_10 : w10.cell? ⟨w2.heap.size, 2, none⟩ = some (.bool false) := hB10.keep (by first | (simp; done) | (simp; omega)) (by simp [go_sem, l0_9, l1_9, l2_9, l3_9, l4_9, l5_9, c1_2_9])
  have c1_3_10 : w10.cell? ⟨w2.heap.size, 3, none⟩ = some (.bool false) := hB10.keep (by first | (simp; done) | (simp; omega)) (by simp [go_sem, l0_9, l1_9, l2_9, l3_9, l4_9, l5_9, c1_3_9])
  have c1_4_10 : w10.cell? ⟨w2.heap.size, 4, none⟩ = some (.int .i64 v) := hB10.keep (by first | (simp; done) | (simp; omega)) (by simp [go_sem, l0_9, l1_9, l2_9, l3_9, l4_9, l5_9, c1_4_9])
  have c1_5_10 : w10.cell? ⟨w2.heap.size, 5, none⟩ = some (.string ⟨#[]⟩) := hB10.keep (by first | (simp; done) | (simp; omega)) (by simp [go_sem, l0_9, l1_9, l2_9, l3_9, l4_9, l5_9, c1_5_9])
  have c2_0_10 : w10.cell? ⟨w3.heap.size, 0, none⟩ = some (.int .i64 4) := hB10.keep (by first | (simp; done) | (simp; omega)) (by simp [go_sem, l0_9, l1_9, l2_9, l3_9, l4_9, l5_9, c2_0_9])
  have c2_1_10 : w10.cell? ⟨w3.heap.size, 1, none⟩ = some (.slice none 0 0) := hB10.keep (by first | (simp; done) | (simp; omega)) (by simp [go_sem, l0_9, l1_9, l2_9, l3_9, l4_9, l5_9, c2_1_9])
  have c2_2_10 : w10.cell? ⟨w3.heap.size, 2, none⟩ = some (.bool false) := hB10.keep (by first | (simp; done) | (simp; omega)) (by simp [go_sem, l0_9, l1_9, l2_9, l3_9, l4_9, l5_9, c2_2_9])
  have c2_3_10 : w10.cell? ⟨w3.heap.size, 3, none⟩ = some (.bool false) := hB10.keep (by first | (simp; done) | (simp; omega)) (by simp [go_sem, l0_9, l1_9, l2_9, l3_9, l4_9, l5_9, c2_3_9])
  have c2_4_10 : w10.cell? ⟨w3.heap.size, 4, none⟩ = some (.int .i64 0) := hB10.keep (by first | (simp; done) | (simp; omega)) (by simp [go_sem, l0_9, l1_9, l2_9, l3_9, l4_9, l5_9, c2_4_9])
  have c2_5_10 : w10.cell? ⟨w3.heap.size, 5, none⟩ = some (.string (bs T)) := hB10.keep (by first | (simp; done) | (simp; omega)) (by simp [go_sem, l0_9, l1_9, l2_9, l3_9, l4_9, l5_9, c2_5_9])
  have c3_0_10 : w10.cell? ⟨w4.heap.size, 0, none⟩ = some (.int .i64 4) := hB10.keep (by first | (simp; done) | (simp; omega)) (by simp [go_sem, l0_9, l1_9, l2_9, l3_9, l4_9, l5_9, c3_0_9])
  have c3_1_10 : w10.cell? ⟨w4.heap.size, 1, none⟩ = some (.slice none 0 0) := hB10.keep (by first | (simp; done) | (simp; omega)) (by simp [go_sem, l0_9, l1_9, l2_9, l3_9, l4_9, l5_9, c3_1_9])
  have c3_2_10 : w10.cell? ⟨w4.heap.size, 2, none⟩ = some (.bool false) := hB10.keep (by first | (simp; done) | (simp; omega)) (by simp [go_sem, l0_9, l1_9, l2_9, l3_9, l4_9, l5_9, c3_2_9])
  have c3_3_10 : w10.cell? ⟨w4.heap.size, 3, none⟩ = some (.bool false) := hB10.keep (by first | (simp; done) | (simp; omega)) (by simp [go_sem, l0_9, l1_9, l2_9, l3_9, l4_9, l5_9, c3_3_9])
  have c3_4_10 : w10.cell? ⟨w4.heap.size, 4, none⟩ = some (.int .i64 0) := hB10.keep (by first | (simp; done) | (simp; omega)) (by simp [go_sem, l0_9, l1_9, l2_9, l3_9, l4_9, l5_9, c3_4_9])
  have c3_5_10 : w10.cell? ⟨w4.heap.size, 5, none⟩ = some (.string (bs T)) := hB10.keep (by first | (simp; done) | (simp; omega)) (by simp [go_sem, l0_9, l1_9, l2_9, l3_9, l4_9, l5_9, c3_5_9])
  have c4_0_10 : w10.cell? ⟨w5.heap.size, 0, none⟩ = some (.int .i64 3) := hB10.keep (by first | (simp; done) | (simp; omega)) (by simp [go_sem, l0_9, l1_9, l2_9, l3_9, l4_9, l5_9, c4_0_9])
  have c4_1_10 : w10.cell? ⟨w5.heap.size, 1, none⟩ = some (.slice none 0 0) := hB10.keep (by first | (simp; done) | (simp; omega)) (by simp [go_sem, l0_9, l1_9, l2_9, l3_9, l4_9, l5_9, c4_1_9])
  have c4_2_10 : w10.cell? ⟨w5.heap.size, 2, none⟩ = some (.bool false) := hB10.keep (by first | (simp; done) | (simp; omega)) (by simp [go_sem, l0_9, l1_9, l2_9, l3_9, l4_9, l5_9, c4_2_9])
  have c4_3_10 : w10.cell? ⟨w5.heap.size, 3, none⟩ = some (.bool false) := hB10.keep (by first | (simp; done) | (simp; omega)) (by simp [go_sem, l0_9, l1_9, l2_9, l3_9, l4_9, l5_9, c4_3_9])
  have c4_4_10 : w10.cell? ⟨w5.heap.size, 4, none⟩ = some (.int .i64 v) := hB10.keep (by first | (simp; done) | (simp; omega)) (by simp [go_sem, l0_9, l1_9, l2_9, l3_9, l4_9, l5_9, c4_4_9])
  have c4_5_10 : w10.cell? ⟨w5.heap.size, 5, none⟩ = some (.string ⟨#[]⟩) := hB10.keep (by first | (simp; done) | (simp; omega)) (by simp [go_sem, l0_9, l1_9, l2_9, l3_9, l4_9, l5_9, c4_5_9])
  have c5_0_10 : w10.cell? ⟨w7.heap.size, 0, none⟩ = some (.int .i64 3) := hB10.keep (by first | (simp; done) | (simp; omega)) (by simp [go_sem, l0_9, l1_9, l2_9, l3_9, l4_9, l5_9, c5_0_9])
  have c5_1_10 : w10.cell? ⟨w7.heap.size, 1, none⟩ = some (.slice none 0 0) := hB10.keep (by first | (simp; done) | (simp; omega)) (by simp [go_sem, l0_9, l1_9, l2_9, l3_9, l4_9, l5_9, c5_1_9])
  have c5_2_10 : w10.cell? ⟨w7.heap.size, 2, none⟩ = some (.bool false) := hB10.keep (by first | (simp; done) | (simp; omega)) (by simp [go_sem, l0_9, l1_9, l2_9, l3_9, l4_9, l5_9, c5_2_9])
  have c5_3_10 : w10.cell? ⟨w7.heap.size, 3, none⟩ = some (.bool false) := hB10.keep (by first | (simp; done) | (simp; omega)) (by simp [go_sem, l0_9, l1_9, l2_9, l3_9, l4_9, l5_9, c5_3_9])
  have c5_4_10 : w10.cell? ⟨w7.heap.size, 4, none⟩ = some (.int .i64 F) := hB10.keep (by first | (simp; done) | (simp; omega)) (by simp [go_sem, l0_9, l1_9, l2_9, l3_9, l4_9, l5_9, c5_4_9])
  have c5_5_10 : w10.cell? ⟨w7.heap.size, 5, none⟩ = some (.string ⟨#[]⟩) := hB10.keep (by first | (simp; done) | (simp; omega)) (by simp [go_sem, l0_9, l1_9, l2_9, l3_9, l4_9, l5_9, c5_5_9])
  have c6_0_10 : w10.cell? ⟨w9.heap.size, 0, none⟩ = some (.int .i64 3) := hB10.keep (by first | (simp; done) | (simp; omega)) (by simp [go_sem, l0_9, l1_9, l2_9, l3_9, l4_9, l5_9])
  have c6_1_10 : w10.cell? ⟨w9.heap.size, 1, none⟩ = some (.slice none 0 0) := hB10.keep (by first | (simp; done) | (simp; omega)) (by simp [go_sem, l0_9, l1_9, l2_9, l3_9, l4_9, l5_9])
  have c6_2_10 : w10.cell? ⟨w9.heap.size, 2, none⟩ = some (.bool false) := hB10.keep (by first | (simp; done) | (simp; omega)) (by simp [go_sem, l0_9, l1_9, l2_9, l3_9, l4_9, l5_9])
  have c6_3_10 : w10.cell? ⟨w9.heap.size, 3, none⟩ = some (.bool false) := hB10.keep (by first | (simp; done) | (simp; omega)) (by simp [go_sem, l0_9, l1_9, l2_9, l3_9, l4_9, l5_9])
  have c6_4_10 : w10.cell? ⟨w9.heap.size, 4, none⟩ = some (.int .i64 C) := hB10.keep (by first | (simp; done) | (simp; omega)) (by simp [go_sem, l0_9, l1_9, l2_9, l3_9, l4_9, l5_9])
  have c6_5_10 : w10.cell? ⟨w9.heap.size, 5, none⟩ = some (.string ⟨#[]⟩) := hB10.keep (by first | (simp; done) | (simp; omega)) (by simp [go_sem, l0_9, l1_9, l2_9, l3_9, l4_9, l5_9])
  clear c0_0_9 c0_1_9 c1_0_9 c1_1_9 c1_2_9 c1_3_9 c1_4_9 c1_5_9 c2_0_9 c2_1_9 c2_2_9 c2_3_9 c2_4_9 c2_5_9 c3_0_9 c3_1_9 c3_2_9 c3_3_9 c3_4_9 c3_5_9 c4_0_9 c4_1_9 c4_2_9 c4_3_9 c4_4_9 c4_5_9 c5_0_9 c5_1_9 c5_2_9 c5_3_9 c5_4_9 c5_5_9 l0_9 l1_9 l2_9 l3_9 l4_9 l5_9
  go_wp2_with fail
  refine (HRO.out w2.heap.size 1 _ ⟨l1_10, c1_0_10, c1_1_10, c1_2_10, c1_3_10, c1_4_10, c1_5_10⟩).mono ?_
  rintro e w11 ⟨rfl, hB11⟩
  have hz11 := hB11.size
  have l0_11 : w.heap.size < w11.heap.size := by omega
  have l1_11 : w2.heap.size < w11.heap.size := by omega
  have l2_11 : w3.heap.size < w11.heap.size := by omega
  have l3_11 : w4.heap.size < w11.heap.size := by omega
  have l4_11 : w5.heap.size < w11.heap.size := by omega
  have l5_11 : w7.heap.size < w11.heap.size := by omega
  have l6_11 : w9.heap.size < w11.heap.size := by omega
  have c0_0_11 : w11.cell? ⟨w.heap.size, 0, none⟩ = some (.bool false) := hB11.keep (by omega) c0_0_10
  have c0_1_11 : w11.cell? ⟨w.heap.size, 1, none⟩ = some (.int .i64 v) := hB11.keep (by omega) c0_1_10
  have c1_0_11 : w11.cell? ⟨w2.heap.size, 0, none⟩ = some (.int .i64 3) := hB11.keep (by omega) c1_0_10
  have c1_1_11 : w11.cell? ⟨w2.heap.size, 1, none⟩ = some (.slice none 0 0) := hB11.keep (by omega) c1_1_10
  have c1_2_11 : w11.cell? ⟨w2.heap.size, 2, none⟩ = some (.bool false) := hB11.keep (by omega) c1_2_10
  have c1_3_11 : w11.cell? ⟨w2.heap.size, 3, none⟩ = some (.bool false) := hB11.keep (by omega) c1_3_10
  have c1_4_11 : w11.cell? ⟨w2.heap.size, 4, none⟩ = some (.int .i64 v) := hB11.keep (by omega) c1_4_10
  have c1_5_11 : w11.cell? ⟨w2.heap.size, 5, none⟩ = some (.string ⟨#[]⟩) := hB11.keep (by omega) c1_5_10
  have c2_0_11 : w11.cell? ⟨w3.heap.size, 0, none⟩ = some (.int .i64 4) := hB11.keep (by omega) c2_0_10
  have c2_1_11 : w11.cell? ⟨w3.heap.size, 1, none⟩ = some (.slice none 0 0) := hB11.keep (by omega) c2_1_10
  have c2_2_11 : w11.cell? ⟨w3.heap.size, 2, none⟩ = some (.bool false) := hB11.keep (by omega) c2_2_10
  have c2_3_11 : w11.cell? ⟨w3.heap.size, 3, none⟩ = some (.bool false) := hB11.keep (by omega) c2_3_10
  have c2_4_11 : w11.cell? ⟨w3.heap.size, 4, none⟩ = some (.int .i64 0) := hB11.keep (by omega) c2_4_10
  have c2_5_11 : w11.cell? ⟨w3.heap.size, 5, none⟩ = some (.string (bs T)) := hB11.keep (by omega) c2_5_10
  have c3_0_11 : w11.cell? ⟨w4.heap.size, 0, none⟩ = some (.int .i64 4) := hB11.keep (by omega) c3_0_10
  have c3_1_11 : w11.cell? ⟨w4.heap.size, 1, none⟩ = some (.slice none 0 0) := hB11.keep (by omega) c3_1_10
  have c3_2_11 : w11.cell? ⟨w4.heap.size, 2, none⟩ = some (.bool false) := hB11.keep (by omega) c3_2_10
  have c3_3_11 : w11.cell? ⟨w4.heap.size, 3, none⟩ = some (.bool false) := hB11.keep (by omega) c3_3_10
  have c3_4_11 : w11.cell? ⟨w4.heap.size, 4, none⟩ = some (.int .i64 0) := hB11.keep (by omega) c3_4_10
  have c3_5_11 : w11.cell? ⟨w4.heap.size, 5, none⟩ = some (.string (bs T)) := hB11.keep (by omega) c3_5_10
  have c4_0_11 : w11.cell? ⟨w5.heap.size, 0, none⟩ = some (.int .i64 3) := hB11.keep (by omega) c4_0_10
  have c4_1_11 : w11.cell? ⟨w5.heap.size, 1, none⟩ = some (.slice none 0 0) := hB11.keep (by omega) c4_1_10
  have c4_2_11 : w11.cell? ⟨w5.heap.size, 2, none⟩ = some (.bool false) := hB11.keep (by omega) c4_2_10
  have c4_3_11 : w11.cell? ⟨w5.heap.size, 3, none⟩ = some (.bool false) := hB11.keep (by omega) c4_3_10
  have c4_4_11 : w11.cell? ⟨w5.heap.size, 4, none⟩ = some (.int .i64 v) := hB11.keep (by omega) c4_4_10
  have c4_5_11 : w11.cell? ⟨w5.heap.size, 5, none⟩ = some (.string ⟨#[]⟩) := hB11.keep (by omega) c4_5_10
  have c5_0_11 : w11.cell? ⟨w7.heap.size, 0, none⟩ = some (.int .i64 3) := hB11.keep (by omega) c5_0_10
  have c5_1_11 : w11.cell? ⟨w7.heap.size, 1, none⟩ = some (.slice none 0 0) := hB11.keep (by omega) c5_1_10
  have c5_2_11 : w11.cell? ⟨w7.heap.size, 2, none⟩ = some (.bool false) := hB11.keep (by omega) c5_2_10
  have c5_3_11 : w11.cell? ⟨w7.heap.size, 3, none⟩ = some (.bool false) := hB11.keep (by omega) c5_3_10
  have c5_4_11 : w11.cell? ⟨w7.heap.size, 4, none⟩ = some (.int .i64 F) := hB11.keep (by omega) c5_4_10
  have c5_5_11 : w11.cell? ⟨w7.heap.size, 5, none⟩ = some (.string ⟨#[]⟩) := hB11.keep (by omega) c5_5_10
  have c6_0_11 : w11.cell? ⟨w9.heap.size, 0, none⟩ = some (.int .i64 3) := hB11.keep (by omega) c6_0_10
  have c6_1_11 : w11.cell? ⟨w9.heap.size, 1, none⟩ = some (.slice none 0 0) := hB11.keep (by omega) c6_1_10
  have c6_2_11 : w11.cell? ⟨w9.heap.size, 2, none⟩ = some (.bool false) := hB11.keep (by omega) c6_2_10
  have c6_3_11 : w11.cell? ⟨w9.heap.size, 3, none⟩ = some (.bool false) := hB11.keep (by omega) c6_3_10
  have c6_4_11 : w11.cell? ⟨w9.heap.size, 4, none⟩ = some (.int .i64 C) := hB11.keep (by omega) c6_4_10
  have c6_5_11 : w11.cell? ⟨w9.heap.size, 5, none⟩ = some (.string ⟨#[]⟩) := hB11.keep (by omega) c6_5_10
  clear c0_0_10 c0_1_10 c1_0_10 c1_1_10 c1_2_10 c1_3_10 c1_4_10 c1_5_10 c2_0_10 c2_1_10 c2_2_10 c2_3_10 c2_4_10 c2_5_10 c3_0_10 c3_1_10 c3_2_10 c3_3_10 c3_4_10 c3_5_10 c4_0_10 c4_1_10 c4_2_10 c4_3_10 c4_4_10 c4_5_10 c5_0_10 c5_1_10 c5_2_10 c5_3_10 c5_4_10 c5_5_10 c6_0_10 c6_1_10 c6_2_10 c6_3_10 c6_4_10 c6_5_10 l0_10 l1_10 l2_10 l3_10 l4_10 l5_10 l6_10
  go_wp2_with fail
  refine (HL1.out _).mono ?_
  rintro e w12 ⟨rfl, hB12⟩
  have hz12 := hB12.size
  simp at hz12
  have l0_12 : w.heap.size < w12.heap.size := by omega
  have l1_12 : w2.heap.size < w12.heap.size := by omega
  have l2_12 : w3.heap.size < w12.heap.size := by omega
  have l3_12 : w4.heap.size < w12.heap.size := by omega
  have l4_12 : w5.heap.size < w12.heap.size := by omega
  have l5_12 : w7.heap.size < w12.heap.size := by omega
  have l6_12 : w9.heap.size < w12.heap.size := by omega
  have l7_12 : w11.heap.size < w12.heap.size := by omega
  have c0_0_12 : w12.cell? ⟨w.heap.size, 0, none⟩ = some (.bool false) := hB12.keep (by first | (simp; done) | (simp; omega)) (by simp [go_sem, l0_11, l1_11, l2_11, l3_11, l4_11, l5_11, l6_11, c0_0_11])
  have c0_1_12 : w12.cell? ⟨w.heap.size, 1, none⟩ = some (.int .i64 v) := hB12.keep (by first | (simp; done) | (simp; omega)) (by simp [go_sem, l0_11, l1_11, l2_11, l3_11, l4_11, l5_11, l6_11, c0_1_11])
  have c1_0_12 : w12.cell? ⟨w2.heap.size, 0, none⟩ = some (.int .i64 3) := hB12.keep (by first | (simp; done) | (simp; omega)) (by simp [go_sem, l0_11, l1_11, l2_11, l3_11, l4_11, l5_11, l6_11, c1_0_11])
  have c1_1_12 : w12.cell? ⟨w2.heap.size, 1, none⟩ = some (.slice none 0 0) := hB12.keep (by first | (simp; done) | (simp; omega)) (by simp [go_sem, l0_11, l1_11, l2_11, l3_11, l4_11, l5_11, l6_11, c1_1_11])
  have c1_2_12 : w12.cell? ⟨w2.heap.size, 2, none⟩ = some (.bool false) := hB12.keep (by first | (simp; done) | (simp; omega)) (by simp [go_sem, l0_11, l1_11, l2_11, l3_11, l4_11, l5_11, l6_11, c1_2_11])
  have c1_3_12 : w12.cell? ⟨w2.heap.size, 3, none⟩ = some (.bool false) := hB12.keep (by first | (simp; done) | (simp; omega)) (by simp [go_sem, l0_11, l1_11, l2_11, l3_11, l4_11, l5_11, l6_11, c1_3_11])
  have c1_4_12 : w12.cell? ⟨w2.heap.size, 4, none⟩ = some (.int .i64 v) := hB12.keep (by first | (simp; done) | (simp; omega)) (by simp [go_sem, l0_11, l1_11, l2_11, l3_11, l4_11, l5_11, l6_11, c1_4_11])
  have c1_5_12 : w12.cell? ⟨w2.heap.size, 5, none⟩ = some (.string ⟨#[]⟩) := hB12.keep (by first | (simp; done) | (simp; omega)) (by simp [go_sem, l0_11, l1_11, l2_11, l3_11, l4_11, l5_11, l6_11, c1_5_11])
  have c2_0_12 : w12.cell? ⟨w3.heap.size, 0, none⟩ = some (.int .i64 4) := hB12.keep (by first | (simp; done) | (simp; omega)) (by simp [go_sem, l0_11, l1_11, l2_11, l3_11, l4_11, l5_11, l6_11, c2_0_11])
  have c2_1_12 : w12.cell? ⟨w3.heap.size, 1, none⟩ = some (.slice none 0 0) := hB12.keep (by first | (simp; done) | (simp; omega)) (by simp [go_sem, l0_11, l1_11, l2_11, l3_11, l4_11, l5_11, l6_11, c2_1_11])
  have c2_2_12 : w12.cell? ⟨w3.heap.size, 2, none⟩ = some (.bool false) := hB12.keep (by first | (simp; done) | (simp; omega)) (by simp [go_sem, l0_11, l1_11, l2_11, l3_11, l4_11, l5_11, l6_11, c2_2_11])
  have c2_3_12 : w12.cell? ⟨w3.heap.size, 3, none⟩ = some (.bool false) := hB12.keep (by first | (simp; done) | (simp; omega)) (by simp [go_sem, l0_11, l1_11, l2_11, l3_11, l4_11, l5_11, l6_11, c2_3_11])
  have c2_4_12 : w12.cell? ⟨w3.heap.size, 4, none⟩ = some (.int .i64 0) := hB12.keep (by first | (simp; done) | (simp; omega)) (by simp [go_sem, l0_11, l1_11, l2_11, l3_11, l4_11, l5_11, l6_11, c2_4_11])
  have c2_5_12 : w12.cell? ⟨w3.heap.size, 5, none⟩ = some (.string (bs T)) := hB12.keep (by first | (simp; done) | (simp; omega)) (by simp [go_sem, l0_11, l1_11, l2_11, l3_11, l4_11, l5_11, l6_11, c2_5_11])
  have c3_0_12 : w12.cell? ⟨w4.heap.size, 0, none⟩ = some (.int .i64 4) := hB12.keep (by first | (simp; done) | (simp; omega)) (by simp [go_sem, l0_11, l1_11, l2_11, l3_11, l4_11, l5_11, l6_11, c3_0_11])
  have c3_1_12 : w12.cell? ⟨w4.heap.size, 1, none⟩ = some (.slice none 0 0) := hB12.keep (by first | (simp; done) | (simp; omega)) (by simp [go_sem, l0_11, l1_11, l2_11, l3_11, l4_11, l5_11, l6_11, c3_1_11])
  have c3_2_12 : w12.cell? ⟨w4.heap.size, 2, none⟩ = some (.bool false) := hB12.keep (by first | (simp; done) | (simp; omega)) (by simp [go_sem, l0_11, l1_11, l2_11, l3_11, l4_11, l5_11, l6_11, c3_2_11])
  have c3_3_12 : w12.cell? ⟨w4.heap.size, 3, none⟩ = some (.bool false) := hB12.keep (by first | (simp; done) | (simp; omega)) (by simp [go_sem, l0_11, l1_11, l2_11, l3_11, l4_11, l5_11, l6_11, c3_3_11])
  have c3_4_12 : w12.cell? ⟨w4.heap.size, 4, none⟩ = some (.int .i64 0) := hB12.keep (by first | (simp; done) | (simp; omega)) (by simp [go_sem, l0_11, l1_11, l2_11, l3_11, l4_11, l5_11, l6_11, c3_4_11])
  have c3_5_12 : w12.cell? ⟨w4.heap.size, 5, none⟩ = some (.string (bs T)) := hB12.keep (by first | (simp; done) | (simp; omega)) (by simp [go_sem, l0_11, l1_11, l2_11, l3_11, l4_11, l5_11, l6_11, c3_5_11])
  have c4_0_12 : w12.cell? ⟨w5.heap.size, 0, none⟩ = some (.int .i64 3) := hB12.keep (by first | (simp; done) | (simp; omega)) (by simp [go_sem, l0_11, l1_11, l2_11, l3_11, l4_11, l5_11, l6_11, c4_0_11])
  have c4_1_12 : w12.cell? ⟨w5.heap.size, 1, none⟩ = some (.slice none 0 0) := hB12.keep (by first | (simp; done) | (simp; omega)) (by simp [go_sem, l0_11, l1_11, l2_11, l3_11, l4_11, l5_11, l6_11, c4_1_11])
  have c4_2_12 : w12.cell? ⟨w5.heap.size, 2, none⟩ = some (.bool false) := hB12.keep (by first | (simp; done) | (simp; omega)) (by simp [go_sem, l0_11, l1_11, l2_11, l3_11, l4_11, l5_11, l6_11, c4_2_11])
  have c4_3_12 : w12.cell? ⟨w5.heap.size, 3, none⟩ = some (.bool false) := hB12.keep (by first | (simp; done) | (simp; omega)) (by simp [go_sem, l0_11, l1_11, l2_11, l3_11, l4_11, l5_11, l6_11, c4_3_11])
  have c4_4_12 : w12.cell? ⟨w5.heap.size, 4, none⟩ = some (.int .i64 v) := hB12.keep (by first | (simp; done) | (simp; omega)) (by simp [go_sem, l0_11, l1_11, l2_11, l3_11, l4_11, l5_11, l6_11, c4_4_11])
  have c4_5_12 : w12.cell? ⟨w5.heap.size, 5, none⟩ = some (.string ⟨#[]⟩) := hB12.keep (by first | (simp; done) | (simp; omega)) (by simp [go_sem, l0_11, l1_11, l2_11, l3_11, l4_11, l5_11, l6_11, c4_5_11])
  have c5_0_12 : w12.cell? ⟨w7.heap.size, 0, none⟩ = some (.int .i64 3) := hB12.keep (by first | (simp; done) | (simp; omega)) (by simp [go_sem, l0_11, l1_11, l2_11, l3_11, l4_11, l5_11, l6_11, c5_0_11])
  have c5_1_12 : w12.cell? ⟨w7.heap.size, 1, none⟩ = some (.slice none 0 0) := hB12.keep (by first | (simp; done) | (simp; omega)) (by simp [go_sem, l0_11, l1_11, l2_11, l3_11, l4_11, l5_11, l6_11, c5_1_11])
  have c5_2_12 : w12.cell? ⟨w7.heap.size, 2, none⟩ = some (.bool false) := hB12.keep (by first | (simp; done) | (simp; omega)) (by simp [go_sem, l0_11, l1_11, l2_11, l3_11, l4_11, l5_11, l6_11, c5_2_11])
  have c5_3_12 : w12.cell? ⟨w7.heap.size, 3, none⟩ = some (.bool false) := hB12.keep (by first | (simp; done) | (simp; omega)) (by simp [go_sem, l0_11, l1_11, l2_11, l3_11, l4_11, l5_11, l6_11, c5_3_11])
  have c5_4_12 : w12.cell? ⟨w7.heap.size, 4, none⟩ = some (.int .i64 F) := hB12.keep (by first | (simp; done) | (simp; omega)) (by simp [go_sem, l0_11, l1_11, l2_11, l3_11, l4_11, l5_11, l6_11, c5_4_11])
  have c5_5_12 : w12.cell? ⟨w7.heap.size, 5, none⟩ = some (.string ⟨#[]⟩) := hB12.keep (by first | (simp; done) | (simp; omega)) (by simp [go_sem, l0_11, l1_11, l2_11, l3_11, l4_11, l5_11, l6_11, c5_5_11])
  have c6_0_12 : w12.cell? ⟨w9.heap.size, 0, none⟩ = some (.int .i64 3) := hB12.keep (by first | (simp; done) | (simp; omega)) (by simp [go_sem, l0_11, l1_11, l2_11, l3_11, l4_11, l5_11, l6_11, c6_0_11])
  have c6_1_12 : w12.cell? ⟨w9.heap.size, 1, none⟩ = some (.slice none 0 0) := hB12.keep (by first | (simp; done) | (simp; omega)) (by simp [go_sem, l0_11, l1_11, l2_11, l3_11, l4_11, l5_11, l6_11, c6_1_11])
  have c6_2_12 : w12.cell? ⟨w9.heap.size, 2, none⟩ = some (.bool false) := hB12.keep (by first | (simp; done) | (simp; omega)) (by simp [go_sem, l0_11, l1_11, l2_11, l3_11, l4_11, l5_11, l6_11, c6_2_11])
  have c6_3_12 : w12.cell? ⟨w9.heap.size, 3, none⟩ = some (.bool false) := hB12.keep (by first | (simp; done) | (simp; omega)) (by simp [go_sem, l0_11, l1_11, l2_11, l3_11, l4_11, l5_11, l6_11, c6_3_11])
  have c6_4_12 : w12.cell? ⟨w9.heap.size, 4, none⟩ = some (.int .i64 C) := hB12.keep (by first | (simp; done) | (simp; omega)) (by simp [go_sem, l0_11, l1_11, l2_11, l3_11, l4_11, l5_11, l6_11, c6_4_11])
  have c6_5_12 : w12.cell? ⟨w9.heap.size, 5, none⟩ = some (.string ⟨#[]⟩) := hB12.keep (by first | (simp; done) | (simp; omega)) (by simp [go_sem, l0_11, l1_11, l2_11, l3_11, l4_11, l5_11, l6_11, c6_5_11])
  have c7_0_12 : w12.cell? ⟨w11.heap.size, 0, none⟩ = some (.int .i64 3) := hB12.keep (by first | (simp; done) | (simp; omega)) (by simp [go_sem, l0_11, l1_11, l2_11, l3_11, l4_11, l5_11, l6_11])
  have c7_1_12 : w12.cell? ⟨w11.heap.size, 1, none⟩ = some (.slice none 0 0) := hB12.keep (by first | (simp; done) | (simp; omega)) (by simp [go_sem, l0_11, l1_11, l2_11, l3_11, l4_11, l5_11, l6_11])
  have c7_2_12 : w12.cell? ⟨w11.heap.size, 2, none⟩ = some (.bool false) := hB12.keep (by first | (simp; done) | (simp; omega)) (by simp [go_sem, l0_11, l1_11, l2_11, l3_11, l4_11, l5_11, l6_11])
  have c7_3_12 : w12.cell? ⟨w11.heap.size, 3, none⟩ = some (.bool false) := hB12.keep (by first | (simp; done) | (simp; omega)) (by simp [go_sem, l0_11, l1_11, l2_11, l3_11, l4_11, l5_11, l6_11])
  have c7_4_12 : w12.cell? ⟨w11.heap.size, 4, none⟩ = some (.int .i64 C) := hB12.keep (by first | (simp; done) | (simp; omega)) (by simp [go_sem, l0_11, l1_11, l2_11, l3_11, l4_11, l5_11, l6_11])
  have c7_5_12 : w12.cell? ⟨w11.heap.size, 5, none⟩ = some (.string ⟨#[]⟩) := hB12.keep (by first | (simp; done) | (simp; omega)) (by simp [go_sem, l0_11, l1_11, l2_11, l3_11, l4_11, l5_11, l6_11])
  clear c0_0_11 c0_1_11 c1_0_11 c1_1_11 c1_2_11 c1_3_11 c1_4_11 c1_5_11 c2_0_11 c2_1_11 c2_2_11 c2_3_11 c2_4_11 c2_5_11 c3_0_11 c3_1_11 c3_2_11 c3_3_11 c3_4_11 c3_5_11 c4_0_11 c4_1_11 c4_2_11 c4_3_11 c4_4_11 c4_5_11 c5_0_11 c5_1_11 c5_2_11 c5_3_11 c5_4_11 c5_5_11 c6_0_11 c6_1_11 c6_2_11 c6_3_11 c6_4_11 c6_5_11 l0_11 l1_11 l2_11 l3_11 l4_11 l5_11 l6_11
  go_wp2_with fail
  refine (HL2.out _).mono ?_
  rintro e w13 ⟨rfl, hB13⟩
  have hz13 := hB13.size
  have l0_13 : w.heap.size < w13.heap.size := by omega
  have l1_13 : w2.heap.size < w13.heap.size := by omega
  have l2_13 : w3.heap.size < w13.heap.size := by omega
  have l3_13 : w4.heap.size < w13.heap.size := by omega
  have l4_13 : w5.heap.size < w13.heap.size := by omega
  have l5_13 : w7.heap.size < w13.heap.size := by omega
  have l6_13 : w9.heap.size < w13.heap.size := by omega
  have l7_13 : w11.heap.size < w13.heap.size := by omega
  have c0_0_13 : w13.cell? ⟨w.heap.size, 0, none⟩ = some (.bool false) := hB13.keep (by omega) c0_0_12
  have c0_1_13 : w13.cell? ⟨w.heap.size, 1, none⟩ = some (.int .i64 v) := hB13.keep (by omega) c0_1_12
  have c1_0_13 : w13.cell? ⟨w2.heap.size, 0, none⟩ = some (.int .i64 3) := hB13.keep (by omega) c1_0_12
  have c1_1_13 : w13.cell? ⟨w2.heap.size, 1, none⟩ = some (.slice none 0 0) := hB13.keep (by omega) c1_1_12
  have c1_2_13 : w13.cell? ⟨w2.heap.size, 2, none⟩ = some (.bool false) := hB13.keep (by omega) c1_2_12
  have c1_3_13 : w13.cell? ⟨w2.heap.size, 3, none⟩ = some (.bool false) := hB13.keep (by omega) c1_3_12
  have c1_4_13 : w13.cell? ⟨w2.heap.size, 4, none⟩ = some (.int .i64 v) := hB13.keep (by omega) c1_4_12
  have c1_5_13 : w13.cell? ⟨w2.heap.size, 5, none⟩ = some (.string ⟨#[]⟩) := hB13.keep (by omega) c1_5_12
  have c2_0_13 : w13.cell? ⟨w3.heap.size, 0, none⟩ = some (.int .i64 4) := hB13.keep (by omega) c2_0_12
  have c2_1_13 : w13.cell? ⟨w3.heap.size, 1, none⟩ = some (.slice none 0 0) := hB13.keep (by omega) c2_1_12
  have c2_2_13 : w13.cell? ⟨w3.heap.size, 2, none⟩ = some (.bool false) := hB13.keep (by omega) c2_2_12
  have c2_3_13 : w13.cell? ⟨w3.heap.size, 3, none⟩ = some (.bool false) := hB13.keep (by omega) c2_3_12
  have c2_4_13 : w13.cell? ⟨w3.heap.size, 4, none⟩ = some (.int .i64 0) := hB13.keep (by omega) c2_4_12
  have c2_5_13 : w13.cell? ⟨w3.heap.size, 5, none⟩ = some (.string (bs T)) := hB13.keep (by omega) c2_5_12
  have c3_0_13 : w13.cell? ⟨w4.heap.size, 0, none⟩ = some (.int .i64 4) := hB13.keep (by omega) c3_0_12
  have c3_1_13 : w13.cell? ⟨w4.heap.size, 1, none⟩ = some (.slice none 0 0) := hB13.keep (by omega) c3_1_12
  have c3_2_13 : w13.cell? ⟨w4.heap.size, 2, none⟩ = some (.bool false) := hB13.keep (by omega) c3_2_12
  have c3_3_13 : w13.cell? ⟨w4.heap.size, 3, none⟩ = some (.bool false) := hB13.keep (by omega) c3_3_12
  have c3_4_13 : w13.cell? ⟨w4.heap.size, 4, none⟩ = some (.int .i64 0) := hB13.keep (by omega) c3_4_12
  have c3_5_13 : w13.cell? ⟨w4.heap.size, 5, none⟩ = some (.string (bs T)) := hB13.keep (by omega) c3_5_12
  have c4_0_13 : w13.cell? ⟨w5.heap.size, 0, none⟩ = some (.int .i64 3) := hB13.keep (by omega) c4_0_12
  have c4_1_13 : w13.cell? ⟨w5.heap.size, 1, none⟩ = some (.slice none 0 0) := hB13.keep (by omega) c4_1_12
  have c4_2_13 : w13.cell? ⟨w5.heap.size, 2, none⟩ = some (.bool false) := hB13.keep (by omega) c4_2_12
  have c4_3_13 : w13.cell? ⟨w5.heap.size, 3, none⟩ = some (.bool false) := hB13.keep (by omega) c4_3_12
  have c4_4_13 : w13.cell? ⟨w5.heap.size, 4, none⟩ = some (.int .i64 v) := hB13.keep (by omega) c4_4_12
  have c4_5_13 : w13.cell? ⟨w5.heap.size, 5, none⟩ = some (.string ⟨#[]⟩) := hB13.keep (by omega) c4_5_12
  have c5_0_13 : w13.cell? ⟨w7.heap.size, 0, none⟩ = some (.int .i64 3) := hB13.keep (by omega) c5_0_12
  have c5_1_13 : w13.cell? ⟨w7.heap.size, 1, none⟩ = some (.slice none 0 0) := hB13.keep (by omega) c5_1_12
  have c5_2_13 : w13.cell? ⟨w7.heap.size, 2, none⟩ = some (.bool false) := hB13.keep (by omega) c5_2_12
  have c5_3_13 : w13.cell? ⟨w7.heap.size, 3, none⟩ = some (.bool false) := hB13.keep (by omega) c5_3_12
  have c5_4_13 : w13.cell? ⟨w7.heap.size, 4, none⟩ = some (.int .i64 F) := hB13.keep (by omega) c5_4_12
  have c5_5_13 : w13.cell? ⟨w7.heap.size, 5, none⟩ = some (.string ⟨#[]⟩) := hB13.keep (by omega) c5_5_12
  have c6_0_13 : w13.cell? ⟨w9.heap.size, 0, none⟩ = some (.int .i64 3) := hB13.keep (by omega) c6_0_12
  have c6_1_13 : w13.cell? ⟨w9.heap.size, 1, none⟩ = some (.slice none 0 0) := hB13.keep (by omega) c6_1_12
  have c6_2_13 : w13.cell? ⟨w9.heap.size, 2, none⟩ = some (.bool false) := hB13.keep (by omega) c6_2_12
  have c6_3_13 : w13.cell? ⟨w9.heap.size, 3, none⟩ = some (.bool false) := hB13.keep (by omega) c6_3_12
  have c6_4_13 : w13.cell? ⟨w9.heap.size, 4, none⟩ = some (.int .i64 C) := hB13.keep (by omega) c6_4_12
  have c6_5_13 : w13.cell? ⟨w9.heap.size, 5, none⟩ = some (.string ⟨#[]⟩) := hB13.keep (by omega) c6_5_12
  have c7_0_13 : w13.cell? ⟨w11.heap.size, 0, none⟩ = some (.int .i64 3) := hB13.keep (by omega) c7_0_12
  have c7_1_13 : w13.cell? ⟨w11.heap.size, 1, none⟩ = some (.slice none 0 0) := hB13.keep (by omega) c7_1_12
  have c7_2_13 : w13.cell? ⟨w11.heap.size, 2, none⟩ = some (.bool false) := hB13.keep (by omega) c7_2_12
  have c7_3_13 : w13.cell? ⟨w11.heap.size, 3, none⟩ = some (.bool false) := hB13.keep (by omega) c7_3_12
  have c7_4_13 : w13.cell? ⟨w11.heap.size, 4, none⟩ = some (.int .i64 C) := hB13.keep (by omega) c7_4_12
  have c7_5_13 : w13.cell? ⟨w11.heap.size, 5, none⟩ = some (.string ⟨#[]⟩) := hB13.keep (by omega) c7_5_12
  clear c0_0_12 c0_1_12 c1_0_12 c1_1_12 c1_2_12 c1_3_12 c1_4_12 c1_5_12 c2_0_12 c2_1_12 c2_2_12 c2_3_12 c2_4_12 c2_5_12 c3_0_12 c3_1_12 c3_2_12 c3_3_12 c3_4_12 c3_5_12 c4_0_12 c4_1_12 c4_2_12 c4_3_12 c4_4_12 c4_5_12 c5_0_12 c5_1_12 c5_2_12 c5_3_12 c5_4_12 c5_5_12 c6_0_12 c6_1_12 c6_2_12 c6_3_12 c6_4_12 c6_5_12 c7_0_12 c7_1_12 c7_2_12 c7_3_12 c7_4_12 c7_5_12 l0_12 l1_12 l2_12 l3_12 l4_12 l5_12 l6_12 l7_12
  go_wp2_with fail
  go_ret
  refine ⟨rfl, ?_⟩
  repeat (first | exact Ext.refl _ | refine Ext.alloc ?_ _ | refine Ext.set ?_ (by dsimp only; omega) _ | refine (Ext.trans ?_ (by assumption)))
set_option maxHeartbeats 4000000 in
theorem numbers_odd (n : Bool) (v : Int) (w : World) (G : Glob w) (U : GlobU w) (h : oddB n v = true) :
    Calls Tryz.prog 6 #[.agg #[.bool n, .int .i64 v]] w fun e w' => e = .returned (.bool true) ∧ Ext w w' := by
  have HO := Lib.hid fun W => rodd_any n v W
  rw [h] at HO
  have U := Lib.hid U
  have G := Lib.hid G
  clear h
  go_enter Tryz.func6, Tryz.ntmps6
  go_wp2_with fail
  refine (awake_any _ (G.out.alloc _) (U.out.ext ((Ext.refl w).alloc _))).mono ?_
  rintro e w1 ⟨rfl, hB1⟩
  have hz1 := hB1.size
  simp at hz1
  have l0_1 : w.heap.size < w1.heap.size := by omega
  have c0_0_1 : w1.cell? ⟨w.heap.size, 0, none⟩ = some (.bool n) := hB1.keep (by first | (simp; done) | (simp; omega)) (by simp [go_sem])
  have c0_1_1 : w1.cell? ⟨w.heap.size, 1, none⟩ = some (.int .i64 v) := hB1.keep (by first | (simp; done) | (simp; omega)) (by simp [go_sem])
  go_wp2_with fail
  refine (HO.out _).mono ?_
  rintro e w2 ⟨rfl, hB2⟩
  have hz2 := hB2.size
  have l0_2 : w.heap.size < w2.heap.size := by omega
  have c0_0_2 : w2.cell? ⟨w.heap.size, 0, none⟩ = some (.bool n) := hB2.keep (by omega) c0_0_1
  have c0_1_2 : w2.cell? ⟨w.heap.size, 1, none⟩ = some (.int .i64 v) := hB2.keep (by omega) c0_1_1
  clear c0_0_1 c0_1_1 l0_1
  go_wp2_with fail
  go_ret
  refine ⟨rfl, ?_⟩
  repeat (first | exact Ext.refl _ | refine Ext.alloc ?_ _ | refine Ext.set ?_ (by dsimp only; omega) _ | refine (Ext.trans ?_ (by assumption)))
/-- The law, of whatever number. -/
theorem numbers_walk (n : Bool) (v : Int) (w : World) (G : Glob w) (U : GlobU w) : Calls Tryz.prog 6 #[.agg #[.bool n, .int .i64 v]] w fun e w' => e = .returned (.bool true) ∧ Ext w w' := by
  by_cases h : oddB n v = true
  · exact numbers_odd n v w G U h
  · have h2 : oddB n v = false := by simpa using h
    obtain rfl : n = false := by cases n <;> simp_all [oddB]
    by_cases hne : ceilV v = floorV v ∨ floorV (v + 500000) = floorV v
    · have e : floorV (v + 500000) = floorV v := by rcases hne with h3 | h3 <;> rcases round_or v with h4 | h4 <;> omega
      exact numbers_a v _ _ w G U h2 (floor_of v h2) (ceil_of v h2) (by rw [← e]; exact round_of v h2) (floor_not v) (ceil_not v)
    · have e : floorV (v + 500000) = ceilV v := by rcases round_or v with h4 | h4 <;> omega
      exact numbers_b v _ _ w G U h2 (floor_of v h2) (ceil_of v h2) (by rw [← e]; exact round_of v h2) (floor_not v) (ceil_not v) (by rw [beq_eq_false_iff_ne]; omega)
end Go.Proofs.YtcdehcclkhmbiaaGreatDoor
