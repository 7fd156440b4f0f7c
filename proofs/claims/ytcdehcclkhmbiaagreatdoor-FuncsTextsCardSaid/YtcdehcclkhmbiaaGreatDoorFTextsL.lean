/-
  recensionlaw24.FuncsTexts tells true. Helper lemmas; no statement of the seat is proved here.
-/
import Derived.Test.YtcdehcclkhmbiaaGreatDoorFAwake
namespace Go.Proofs.YtcdehcclkhmbiaaGreatDoor
open Go.RowKit
set_option maxRecDepth 100000
set_option linter.unusedVariables false
set_option linter.unusedSimpArgs false

theorem cut_yes (s p : List UInt8) (h : Lib.contains s p = true) : (cutS s p).1 ++ p ++ (cutS s p).2 = s := by
  unfold Lib.contains at h
  have h0 : 0 ≤ Lib.index s p := of_decide_eq_true h
  unfold cutS Lib.cut
  rw [if_pos h0]
  rcases Lib.index_spec s p with ⟨h1, _⟩ | ⟨i, h1, h2, h3, _⟩
  · omega
  · rw [h1]
    simp only [if_pos, Int.toNat_natCast]
    unfold Lib.occAt at h3
    obtain ⟨t, ht⟩ := List.isPrefixOf_iff_prefix.1 h3
    have e : s.drop (i + p.length) = t := by rw [← List.drop_drop, ← ht, List.drop_left]
    rw [e, List.append_assoc, ht, List.take_append_drop]
theorem cut_no (s p : List UInt8) (h : Lib.contains s p = false) : cutS s p = ([], []) := by
  unfold Lib.contains at h
  have h0 : ¬ 0 ≤ Lib.index s p := of_decide_eq_false h
  unfold cutS Lib.cut
  rw [if_neg h0]; rfl
theorem contains_mid (a p s : List UInt8) : Lib.contains (a ++ p ++ s) p = true := by
  unfold Lib.contains
  apply decide_eq_true
  rcases Lib.index_spec (a ++ p ++ s) p with ⟨_, h2⟩ | ⟨i, h1, _⟩
  · have := h2 a.length (by simp)
    unfold Lib.occAt at this
    rw [List.append_assoc, List.drop_left] at this
    rw [List.isPrefixOf_iff_prefix.2 (List.prefix_append _ _)] at this
    cases this
  · rw [h1]; omega
theorem starts_all (a p s : List UInt8) : Lib.hasPrefix (a ++ p ++ s) a = true := by
  unfold Lib.hasPrefix
  rw [List.append_assoc]
  exact List.isPrefixOf_iff_prefix.2 (List.prefix_append _ _)
theorem join_three (a p s : List UInt8) : Lib.join [a, p, s] [] = a ++ p ++ s := by simp [Lib.join, List.intercalate, List.intersperse]
theorem ct_before (s p A : List UInt8) (h0 : s.length ≤ 4294967280) (hA : (cutS s p).1 = A) (W : World) (G : Glob W) : Hid (CallTexts W ⟨#[115, 117, 98, 115, 116, 114, 105, 110, 103, 45, 98, 101, 102, 111, 114, 101]⟩ [s, p] (bs A)) :=
  Lib.hid fun W' ab cp hX hA' => by have := c_before s p h0 ab cp W' (G.ext hX) (hA' 0 (by simp)) (hA' 1 (by simp)); rw [hA] at this; exact this
theorem ct_after (s p A : List UInt8) (h0 : s.length ≤ 4294967280) (hA : (cutS s p).2 = A) (W : World) (G : Glob W) : Hid (CallTexts W ⟨#[115, 117, 98, 115, 116, 114, 105, 110, 103, 45, 97, 102, 116, 101, 114]⟩ [s, p] (bs A)) :=
  Lib.hid fun W' ab cp hX hA' => by have := c_after s p h0 ab cp W' (G.ext hX) (hA' 0 (by simp)) (hA' 1 (by simp)); rw [hA] at this; exact this
theorem ct_concat (a p s A : List UInt8) (hA : a ++ p ++ s = A) (hl : A.length ≤ 2000) (W : World) : Hid (CallTexts W ⟨#[99, 111, 110, 99, 97, 116]⟩ [a, p, s] (bs A)) :=
  Lib.hid fun W' ab cp hX hA' => by
    have e : Lib.join [a, p, s] [] = A := by rw [join_three]; exact hA
    have := c_concat a p s (by rw [e]; omega) ab cp W' (hA' 0 (by simp)) (hA' 1 (by simp)) (hA' 2 (by simp)); rw [e] at this; exact this

set_option maxHeartbeats 4000000 in
theorem texts_long (s p a : List UInt8) (w : World) (G : Glob w) (U : GlobU w) (hl : (2000 : Int) < ((bs s).size : Int) + ((bs p).size : Int) + ((bs a).size : Int))
    (h1 : (bs s).size ≤ 140737488351232) (h2 : (bs p).size ≤ 140737488351232) (h3 : (bs a).size ≤ 140737488351232) :
    Calls Tryz.prog 3 #[.string (bs s), .string (bs p), .string (bs a)] w fun e w' => e = .returned (.bool true) ∧ Ext w w' := by
  have HA := Lib.hid (awake_any w G U)
  clear G U
  go_enter Tryz.func3, Tryz.ntmps3
  go_wp2_with fail
  refine HA.out.mono ?_
  rintro e w1 ⟨rfl, hE1⟩
  go_wp2_with fail
  go_ret
  exact ⟨rfl, hE1⟩

set_option maxHeartbeats 8000000 in
theorem texts_yes (s p a A B all : List UInt8) (w : World) (G : Glob w) (U : GlobU w) (hl : ¬ (2000 : Int) < ((bs s).size : Int) + ((bs p).size : Int) + ((bs a).size : Int))
    (hc : Lib.contains s p = true) (hA : (cutS s p).1 = A) (hB : (cutS s p).2 = B) (hAB : A ++ p ++ B = s) (hall : a ++ p ++ s = all) :
    Calls Tryz.prog 3 #[.string (bs s), .string (bs p), .string (bs a)] w fun e w' => e = .returned (.bool true) ∧ Ext w w' := by
  have hl2 : s.length + p.length + a.length ≤ 2000 := by simp only [bs_size] at hl; omega
  have hal : all.length ≤ 2000 := by rw [← hall]; simp; omega
  have HB := Lib.hid fun W => ct_before s p A (by omega) hA W
  have HF := Lib.hid fun W => ct_after s p B (by omega) hB W
  have HC := Lib.hid fun W => ct_concat a p s all hall hal W
  have HCO := Lib.hid fun ab cp W G' => c_contains s p (by omega) ab cp W G'
  have HCA := Lib.hid fun ab cp W G' => c_contains all p (by omega) ab cp W G'
  have HST := Lib.hid fun ab cp W => c_starts all a ab cp W
  have e1 : Lib.contains all p = true := by rw [← hall]; exact contains_mid a p s
  have e2 : Lib.hasPrefix all a = true := by rw [← hall]; exact starts_all a p s
  rw [hc] at HCO
  rw [e1] at HCA
  rw [e2] at HST
  have g1 : ¬ 9223372036854775807 < (bs a).size + (bs p).size := by simp only [bs_size]; omega
  have g2 : ¬ 9223372036854775807 < (bs a ++ bs p).size + (bs s).size := by rw [bs_append]; simp only [bs_size, List.length_append]; omega
  have g3 : bs a ++ bs p ++ bs s = bs all := by rw [bs_append, bs_append, hall]
  have g4 : ¬ 9223372036854775807 < (bs A).size + (bs p).size := by have := congrArg List.length hAB; simp only [List.length_append] at this; simp only [bs_size]; omega
  have g5 : ¬ 9223372036854775807 < (bs A ++ bs p).size + (bs B).size := by have := congrArg List.length hAB; simp only [List.length_append] at this; rw [bs_append]; simp only [bs_size, List.length_append]; omega
  have g6 : bs A ++ bs p ++ bs B = bs s := by rw [bs_append, bs_append, hAB]
  have U := Lib.hid U
  have G := Lib.hid G
  clear hA hB hall hal e1 e2 hc hl2 hAB
  go_enter Tryz.func3, Tryz.ntmps3
  go_wp2_with fail
  refine (awake_any w G.out U.out).mono ?_
  rintro e w1 ⟨rfl, hB1⟩
  have hz1 := hB1.size
  go_wp2_with fail
  refine (told_any_texts ⟨#[115, 117, 98, 115, 116, 114, 105, 110, 103, 45, 98, 101, 102, 111, 114, 101]⟩ [s, p] _ _ _ (by simp) (by simp) (strRow_at [s, p] (by simp) 2 _ rfl (by first | rfl | simp) rfl) (HB.out _ (G.out.ext (by repeat (first | exact Ext.refl _ | refine Ext.alloc ?_ _ | refine Ext.set ?_ (by dsimp only; omega) _ | refine (Ext.trans ?_ (by assumption))))))).mono ?_
  rintro e w2 ⟨rfl, hB2⟩
  have hz2 := hB2.size
  simp at hz2
  have l0_2 : w1.heap.size < w2.heap.size := by omega
  go_wp2_with fail
  refine (told_any_texts ⟨#[115, 117, 98, 115, 116, 114, 105, 110, 103, 45, 97, 102, 116, 101, 114]⟩ [s, p] _ _ _ (by simp) (by simp) (strRow_at [s, p] (by simp) 2 _ rfl (by first | rfl | simp) rfl) (HF.out _ (G.out.ext (by repeat (first | exact Ext.refl _ | refine Ext.alloc ?_ _ | refine Ext.set ?_ (by dsimp only; omega) _ | refine (Ext.trans ?_ (by assumption))))))).mono ?_
  rintro e w3 ⟨rfl, hB3⟩
  have hz3 := hB3.size
  simp at hz3
  have l0_3 : w1.heap.size < w3.heap.size := by omega
  have l1_3 : w2.heap.size < w3.heap.size := by omega
  clear l0_2
  go_wp2_with fail
  refine (ltext_any (bs s) _).mono ?_
  rintro e w4 ⟨rfl, hB4⟩
  have hz4 := hB4.size
  have l0_4 : w1.heap.size < w4.heap.size := by omega
  have l1_4 : w2.heap.size < w4.heap.size := by omega
  clear l0_3 l1_3
  go_wp2_with fail
  refine (ltext_any (bs p) _).mono ?_
  rintro e w5 ⟨rfl, hB5⟩
  have hz5 := hB5.size
  have l0_5 : w1.heap.size < w5.heap.size := by omega
  have l1_5 : w2.heap.size < w5.heap.size := by omega
  clear l0_4 l1_4
  go_wp2_with fail
  refine (HCO.out w5.heap.size 2 _ (G.out.ext (by repeat (first | exact Ext.refl _ | refine Ext.alloc ?_ _ | refine Ext.set ?_ (by dsimp only; omega) _ | refine (Ext.trans ?_ (by assumption))))) (arg_lit _ _ 0 _ _ _ _ _ rfl rfl rfl rfl rfl rfl) (arg_lit _ _ 1 _ _ _ _ _ rfl rfl rfl rfl rfl rfl)).mono ?_
  rintro e w6 ⟨rfl, hB6⟩
  have hz6 := hB6.size
  simp at hz6
  have l0_6 : w1.heap.size < w6.heap.size := by omega
  have l1_6 : w2.heap.size < w6.heap.size := by omega
  have l2_6 : w5.heap.size < w6.heap.size := by omega
  clear l0_5 l1_5
  go_wp2_with fail
  refine (told_any_texts ⟨#[99, 111, 110, 99, 97, 116]⟩ [a, p, s] _ _ _ (by simp) (by simp) (strRow_at [a, p, s] (by simp) 3 _ rfl (by first | rfl | simp) rfl) (HC.out _)).mono ?_
  rintro e w7 ⟨rfl, hB7⟩
  have hz7 := hB7.size
  simp at hz7
  have l0_7 : w1.heap.size < w7.heap.size := by omega
  have l1_7 : w2.heap.size < w7.heap.size := by omega
  have l2_7 : w5.heap.size < w7.heap.size := by omega
  have l3_7 : w6.heap.size < w7.heap.size := by omega
  have l4_7 : w6.heap.size + 1 < w7.heap.size := by omega
  have c3_0_7 : w7.cell? ⟨w6.heap.size, 0, none⟩ = some (.int .i64 2) := hB7.keep (by first | (simp; done) | (simp; omega)) (by simp [go_sem, l0_6, l1_6, l2_6])
  have c3_1_7 : w7.cell? ⟨w6.heap.size, 1, none⟩ = some (.slice none 0 0) := hB7.keep (by first | (simp; done) | (simp; omega)) (by simp [go_sem, l0_6, l1_6, l2_6])
  have c3_2_7 : w7.cell? ⟨w6.heap.size, 2, none⟩ = some (.bool true) := hB7.keep (by first | (simp; done) | (simp; omega)) (by simp [go_sem, l0_6, l1_6, l2_6])
  have c3_3_7 : w7.cell? ⟨w6.heap.size, 3, none⟩ = some (.bool false) := hB7.keep (by first | (simp; done) | (simp; omega)) (by simp [go_sem, l0_6, l1_6, l2_6])
  have c3_4_7 : w7.cell? ⟨w6.heap.size, 4, none⟩ = some (.int .i64 0) := hB7.keep (by first | (simp; done) | (simp; omega)) (by simp [go_sem, l0_6, l1_6, l2_6])
  have c3_5_7 : w7.cell? ⟨w6.heap.size, 5, none⟩ = some (.string ⟨#[]⟩) := hB7.keep (by first | (simp; done) | (simp; omega)) (by simp [go_sem, l0_6, l1_6, l2_6])
  clear l0_6 l1_6 l2_6
  go_wp2_with fail
  refine (ltext_any (bs all) _).mono ?_
  rintro e w8 ⟨rfl, hB8⟩
  have hz8 := hB8.size
  have l0_8 : w1.heap.size < w8.heap.size := by omega
  have l1_8 : w2.heap.size < w8.heap.size := by omega
  have l2_8 : w5.heap.size < w8.heap.size := by omega
  have l3_8 : w6.heap.size < w8.heap.size := by omega
  have l4_8 : w6.heap.size + 1 < w8.heap.size := by omega
  have c3_0_8 : w8.cell? ⟨w6.heap.size, 0, none⟩ = some (.int .i64 2) := hB8.keep (by omega) c3_0_7
  have c3_1_8 : w8.cell? ⟨w6.heap.size, 1, none⟩ = some (.slice none 0 0) := hB8.keep (by omega) c3_1_7
  have c3_2_8 : w8.cell? ⟨w6.heap.size, 2, none⟩ = some (.bool true) := hB8.keep (by omega) c3_2_7
  have c3_3_8 : w8.cell? ⟨w6.heap.size, 3, none⟩ = some (.bool false) := hB8.keep (by omega) c3_3_7
  have c3_4_8 : w8.cell? ⟨w6.heap.size, 4, none⟩ = some (.int .i64 0) := hB8.keep (by omega) c3_4_7
  have c3_5_8 : w8.cell? ⟨w6.heap.size, 5, none⟩ = some (.string ⟨#[]⟩) := hB8.keep (by omega) c3_5_7
  clear c3_0_7 c3_1_7 c3_2_7 c3_3_7 c3_4_7 c3_5_7 l0_7 l1_7 l2_7 l3_7 l4_7
  go_wp2_with fail
  refine (ltext_any (bs p) _).mono ?_
  rintro e w9 ⟨rfl, hB9⟩
  have hz9 := hB9.size
  have l0_9 : w1.heap.size < w9.heap.size := by omega
  have l1_9 : w2.heap.size < w9.heap.size := by omega
  have l2_9 : w5.heap.size < w9.heap.size := by omega
  have l3_9 : w6.heap.size < w9.heap.size := by omega
  have l4_9 : w6.heap.size + 1 < w9.heap.size := by omega
  have c3_0_9 : w9.cell? ⟨w6.heap.size, 0, none⟩ = some (.int .i64 2) := hB9.keep (by omega) c3_0_8
  have c3_1_9 : w9.cell? ⟨w6.heap.size, 1, none⟩ = some (.slice none 0 0) := hB9.keep (by omega) c3_1_8
  have c3_2_9 : w9.cell? ⟨w6.heap.size, 2, none⟩ = some (.bool true) := hB9.keep (by omega) c3_2_8
  have c3_3_9 : w9.cell? ⟨w6.heap.size, 3, none⟩ = some (.bool false) := hB9.keep (by omega) c3_3_8
  have c3_4_9 : w9.cell? ⟨w6.heap.size, 4, none⟩ = some (.int .i64 0) := hB9.keep (by omega) c3_4_8
  have c3_5_9 : w9.cell? ⟨w6.heap.size, 5, none⟩ = some (.string ⟨#[]⟩) := hB9.keep (by omega) c3_5_8
  clear c3_0_8 c3_1_8 c3_2_8 c3_3_8 c3_4_8 c3_5_8 l0_8 l1_8 l2_8 l3_8 l4_8
  go_wp2_with fail
  refine (HCA.out w9.heap.size 2 _ (G.out.ext (by repeat (first | exact Ext.refl _ | refine Ext.alloc ?_ _ | refine Ext.set ?_ (by dsimp only; omega) _ | refine (Ext.trans ?_ (by assumption))))) (arg_lit _ _ 0 _ _ _ _ _ rfl rfl rfl rfl rfl rfl) (arg_lit _ _ 1 _ _ _ _ _ rfl rfl rfl rfl rfl rfl)).mono ?_
  rintro e w10 ⟨rfl, hB10⟩
  have hz10 := hB10.size
  simp at hz10
  have l0_10 : w1.heap.size < w10.heap.size := by omega
  have l1_10 : w2.heap.size < w10.heap.size := by omega
  have l2_10 : w5.heap.size < w10.heap.size := by omega
  have l3_10 : w6.heap.size < w10.heap.size := by omega
  have l4_10 : w6.heap.size + 1 < w10.heap.size := by omega
  have l5_10 : w9.heap.size < w10.heap.size := by omega
  have c3_0_10 : w10.cell? ⟨w6.heap.size, 0, none⟩ = some (.int .i64 2) := hB10.keep (by first | (simp; done) | (simp; omega)) (by simp [go_sem, l0_9, l1_9, l2_9, l3_9, l4_9, c3_0_9])
  have c3_1_10 : w10.cell? ⟨w6.heap.size, 1, none⟩ = some (.slice none 0 0) := hB10.keep (by first | (simp; done) | (simp; omega)) (by simp [go_sem, l0_9, l1_9, l2_9, l3_9, l4_9, c3_1_9])
  have c3_2_10 : w10.cell? ⟨w6.heap.size, 2, none⟩ = some (.bool true) := hB10.keep (by first | (simp; done) | (simp; omega)) (by simp [go_sem, l0_9, l1_9, l2_9, l3_9, l4_9, c3_2_9])
  have c3_3_10 : w10.cell? ⟨w6.heap.size, 3, none⟩ = some (.bool false) := hB10.keep (by first | (simp; done) | (simp; omega)) (by simp [go_sem, l0_9, l1_9, l2_9, l3_9, l4_9, c3_3_9])
  have c3_4_10 : w10.cell? ⟨w6.heap.size, 4, none⟩ = some (.int .i64 0) := hB10.keep (by first | (simp; done) | (simp; omega)) (by simp [go_sem, l0_9, l1_9, l2_9, l3_9, l4_9, c3_4_9])
  have c3_5_10 : w10.cell? ⟨w6.heap.size, 5, none⟩ = some (.string ⟨#[]⟩) := hB10.keep (by first | (simp; done) | (simp; omega)) (by simp [go_sem, l0_9, l1_9, l2_9, l3_9, l4_9, c3_5_9])
  clear c3_0_9 c3_1_9 c3_2_9 c3_3_9 c3_4_9 c3_5_9 l0_9 l1_9 l2_9 l3_9 l4_9
  go_wp2_with fail
  refine (ltext_any (bs all) _).mono ?_
  rintro e w11 ⟨rfl, hB11⟩
  have hz11 := hB11.size
  simp at hz11
  have l0_11 : w1.heap.size < w11.heap.size := by omega
  have l1_11 : w2.heap.size < w11.heap.size := by omega
  have l2_11 : w5.heap.size < w11.heap.size := by omega
  have l3_11 : w6.heap.size < w11.heap.size := by omega
  have l4_11 : w6.heap.size + 1 < w11.heap.size := by omega
  have l5_11 : w9.heap.size < w11.heap.size := by omega
  have l6_11 : w10.heap.size < w11.heap.size := by omega
  have c3_0_11 : w11.cell? ⟨w6.heap.size, 0, none⟩ = some (.int .i64 2) := hB11.keep (by first | (simp; done) | (simp; omega)) (by simp [go_sem, l0_10, l1_10, l2_10, l3_10, l4_10, l5_10, c3_0_10])
  have c3_1_11 : w11.cell? ⟨w6.heap.size, 1, none⟩ = some (.slice none 0 0) := hB11.keep (by first | (simp; done) | (simp; omega)) (by simp [go_sem, l0_10, l1_10, l2_10, l3_10, l4_10, l5_10, c3_1_10])
  have c3_2_11 : w11.cell? ⟨w6.heap.size, 2, none⟩ = some (.bool true) := hB11.keep (by first | (simp; done) | (simp; omega)) (by simp [go_sem, l0_10, l1_10, l2_10, l3_10, l4_10, l5_10, c3_2_10])
  have c3_3_11 : w11.cell? ⟨w6.heap.size, 3, none⟩ = some (.bool false) := hB11.keep (by first | (simp; done) | (simp; omega)) (by simp [go_sem, l0_10, l1_10, l2_10, l3_10, l4_10, l5_10, c3_3_10])
  have c3_4_11 : w11.cell? ⟨w6.heap.size, 4, none⟩ = some (.int .i64 0) := hB11.keep (by first | (simp; done) | (simp; omega)) (by simp [go_sem, l0_10, l1_10, l2_10, l3_10, l4_10, l5_10, c3_4_10])
  have c3_5_11 : w11.cell? ⟨w6.heap.size, 5, none⟩ = some (.string ⟨#[]⟩) := hB11.keep (by first | (simp; done) | (simp; omega)) (by simp [go_sem, l0_10, l1_10, l2_10, l3_10, l4_10, l5_10, c3_5_10])
  have c6_0_11 : w11.cell? ⟨w10.heap.size, 0, none⟩ = some (.int .i64 2) := hB11.keep (by first | (simp; done) | (simp; omega)) (by simp [go_sem, l0_10, l1_10, l2_10, l3_10, l4_10, l5_10])
  have c6_1_11 : w11.cell? ⟨w10.heap.size, 1, none⟩ = some (.slice none 0 0) := hB11.keep (by first | (simp; done) | (simp; omega)) (by simp [go_sem, l0_10, l1_10, l2_10, l3_10, l4_10, l5_10])
  have c6_2_11 : w11.cell? ⟨w10.heap.size, 2, none⟩ = some (.bool true) := hB11.keep (by first | (simp; done) | (simp; omega)) (by simp [go_sem, l0_10, l1_10, l2_10, l3_10, l4_10, l5_10])
  have c6_3_11 : w11.cell? ⟨w10.heap.size, 3, none⟩ = some (.bool false) := hB11.keep (by first | (simp; done) | (simp; omega)) (by simp [go_sem, l0_10, l1_10, l2_10, l3_10, l4_10, l5_10])
  have c6_4_11 : w11.cell? ⟨w10.heap.size, 4, none⟩ = some (.int .i64 0) := hB11.keep (by first | (simp; done) | (simp; omega)) (by simp [go_sem, l0_10, l1_10, l2_10, l3_10, l4_10, l5_10])
  have c6_5_11 : w11.cell? ⟨w10.heap.size, 5, none⟩ = some (.string ⟨#[]⟩) := hB11.keep (by first | (simp; done) | (simp; omega)) (by simp [go_sem, l0_10, l1_10, l2_10, l3_10, l4_10, l5_10])
  clear c3_0_10 c3_1_10 c3_2_10 c3_3_10 c3_4_10 c3_5_10 l0_10 l1_10 l2_10 l3_10 l4_10 l5_10
  go_wp2_with fail
  refine (ltext_any (bs a) _).mono ?_
  rintro e w12 ⟨rfl, hB12⟩
  have hz12 := hB12.size
  have l0_12 : w1.heap.size < w12.heap.size := by omega
  have l1_12 : w2.heap.size < w12.heap.size := by omega
  have l2_12 : w5.heap.size < w12.heap.size := by omega
  have l3_12 : w6.heap.size < w12.heap.size := by omega
  have l4_12 : w6.heap.size + 1 < w12.heap.size := by omega
  have l5_12 : w9.heap.size < w12.heap.size := by omega
  have l6_12 : w10.heap.size < w12.heap.size := by omega
  have c3_0_12 : w12.cell? ⟨w6.heap.size, 0, none⟩ = some (.int .i64 2) := hB12.keep (by omega) c3_0_11
  have c3_1_12 : w12.cell? ⟨w6.heap.size, 1, none⟩ = some (.slice none 0 0) := hB12.keep (by omega) c3_1_11
  have c3_2_12 : w12.cell? ⟨w6.heap.size, 2, none⟩ = some (.bool true) := hB12.keep (by omega) c3_2_11
  have c3_3_12 : w12.cell? ⟨w6.heap.size, 3, none⟩ = some (.bool false) := hB12.keep (by omega) c3_3_11
  have c3_4_12 : w12.cell? ⟨w6.heap.size, 4, none⟩ = some (.int .i64 0) := hB12.keep (by omega) c3_4_11
  have c3_5_12 : w12.cell? ⟨w6.heap.size, 5, none⟩ = some (.string ⟨#[]⟩) := hB12.keep (by omega) c3_5_11
  have c6_0_12 : w12.cell? ⟨w10.heap.size, 0, none⟩ = some (.int .i64 2) := hB12.keep (by omega) c6_0_11
  have c6_1_12 : w12.cell? ⟨w10.heap.size, 1, none⟩ = some (.slice none 0 0) := hB12.keep (by omega) c6_1_11
  have c6_2_12 : w12.cell? ⟨w10.heap.size, 2, none⟩ = some (.bool true) := hB12.keep (by omega) c6_2_11
  have c6_3_12 : w12.cell? ⟨w10.heap.size, 3, none⟩ = some (.bool false) := hB12.keep (by omega) c6_3_11
  have c6_4_12 : w12.cell? ⟨w10.heap.size, 4, none⟩ = some (.int .i64 0) := hB12.keep (by omega) c6_4_11
  have c6_5_12 : w12.cell? ⟨w10.heap.size, 5, none⟩ = some (.string ⟨#[]⟩) := hB12.keep (by omega) c6_5_11
  clear c3_0_11 c3_1_11 c3_2_11 c3_3_11 c3_4_11 c3_5_11 c6_0_11 c6_1_11 c6_2_11 c6_3_11 c6_4_11 c6_5_11 l0_11 l1_11 l2_11 l3_11 l4_11 l5_11 l6_11
  go_wp2_with fail
  refine (HST.out w12.heap.size 2 _ (arg_lit _ _ 0 _ _ _ _ _ rfl rfl rfl rfl rfl rfl) (arg_lit _ _ 1 _ _ _ _ _ rfl rfl rfl rfl rfl rfl)).mono ?_
  rintro e w13 ⟨rfl, hB13⟩
  have hz13 := hB13.size
  simp at hz13
  have l0_13 : w1.heap.size < w13.heap.size := by omega
  have l1_13 : w2.heap.size < w13.heap.size := by omega
  have l2_13 : w5.heap.size < w13.heap.size := by omega
  have l3_13 : w6.heap.size < w13.heap.size := by omega
  have l4_13 : w6.heap.size + 1 < w13.heap.size := by omega
  have l5_13 : w9.heap.size < w13.heap.size := by omega
  have l6_13 : w10.heap.size < w13.heap.size := by omega
  have l7_13 : w12.heap.size < w13.heap.size := by omega
  have c3_0_13 : w13.cell? ⟨w6.heap.size, 0, none⟩ = some (.int .i64 2) := hB13.keep (by first | (simp; done) | (simp; omega)) (by simp [go_sem, l0_12, l1_12, l2_12, l3_12, l4_12, l5_12, l6_12, c3_0_12])
  have c3_1_13 : w13.cell? ⟨w6.heap.size, 1, none⟩ = some (.slice none 0 0) := hB13.keep (by first | (simp; done) | (simp; omega)) (by simp [go_sem, l0_12, l1_12, l2_12, l3_12, l4_12, l5_12, l6_12, c3_1_12])
  have c3_2_13 : w13.cell? ⟨w6.heap.size, 2, none⟩ = some (.bool true) := hB13.keep (by first | (simp; done) | (simp; omega)) (by simp [go_sem, l0_12, l1_12, l2_12, l3_12, l4_12, l5_12, l6_12, c3_2_12])
  have c3_3_13 : w13.cell? ⟨w6.heap.size, 3, none⟩ = some (.bool false) := hB13.keep (by first | (simp; done) | (simp; omega)) (by simp [go_sem, l0_12, l1_12, l2_12, l3_12, l4_12, l5_12, l6_12, c3_3_12])
  have c3_4_13 : w13.cell? ⟨w6.heap.size, 4, none⟩ = some (.int .i64 0) := hB13.keep (by first | (simp; done) | (simp; omega)) (by simp [go_sem, l0_12, l1_12, l2_12, l3_12, l4_12, l5_12, l6_12, c3_4_12])
  have c3_5_13 : w13.cell? ⟨w6.heap.size, 5, none⟩ = some (.string ⟨#[]⟩) := hB13.keep (by first | (simp; done) | (simp; omega)) (by simp [go_sem, l0_12, l1_12, l2_12, l3_12, l4_12, l5_12, l6_12, c3_5_12])
  have c6_0_13 : w13.cell? ⟨w10.heap.size, 0, none⟩ = some (.int .i64 2) := hB13.keep (by first | (simp; done) | (simp; omega)) (by simp [go_sem, l0_12, l1_12, l2_12, l3_12, l4_12, l5_12, l6_12, c6_0_12])
  have c6_1_13 : w13.cell? ⟨w10.heap.size, 1, none⟩ = some (.slice none 0 0) := hB13.keep (by first | (simp; done) | (simp; omega)) (by simp [go_sem, l0_12, l1_12, l2_12, l3_12, l4_12, l5_12, l6_12, c6_1_12])
  have c6_2_13 : w13.cell? ⟨w10.heap.size, 2, none⟩ = some (.bool true) := hB13.keep (by first | (simp; done) | (simp; omega)) (by simp [go_sem, l0_12, l1_12, l2_12, l3_12, l4_12, l5_12, l6_12, c6_2_12])
  have c6_3_13 : w13.cell? ⟨w10.heap.size, 3, none⟩ = some (.bool false) := hB13.keep (by first | (simp; done) | (simp; omega)) (by simp [go_sem, l0_12, l1_12, l2_12, l3_12, l4_12, l5_12, l6_12, c6_3_12])
  have c6_4_13 : w13.cell? ⟨w10.heap.size, 4, none⟩ = some (.int .i64 0) := hB13.keep (by first | (simp; done) | (simp; omega)) (by simp [go_sem, l0_12, l1_12, l2_12, l3_12, l4_12, l5_12, l6_12, c6_4_12])
  have c6_5_13 : w13.cell? ⟨w10.heap.size, 5, none⟩ = some (.string ⟨#[]⟩) := hB13.keep (by first | (simp; done) | (simp; omega)) (by simp [go_sem, l0_12, l1_12, l2_12, l3_12, l4_12, l5_12, l6_12, c6_5_12])
  clear c3_0_12 c3_1_12 c3_2_12 c3_3_12 c3_4_12 c3_5_12 c6_0_12 c6_1_12 c6_2_12 c6_3_12 c6_4_12 c6_5_12 l0_12 l1_12 l2_12 l3_12 l4_12 l5_12 l6_12
  go_wp2_with fail
  go_ret
  refine ⟨rfl, ?_⟩
  repeat (first | exact Ext.refl _ | refine Ext.alloc ?_ _ | refine Ext.set ?_ (by dsimp only; omega) _ | refine (Ext.trans ?_ (by assumption)))
set_option maxHeartbeats 8000000 in
theorem texts_no (s p a all : List UInt8) (w : World) (G : Glob w) (U : GlobU w) (hl : ¬ (2000 : Int) < ((bs s).size : Int) + ((bs p).size : Int) + ((bs a).size : Int))
    (hc : Lib.contains s p = false) (hA : (cutS s p).1 = []) (hB : (cutS s p).2 = []) (hall : a ++ p ++ s = all) :
    Calls Tryz.prog 3 #[.string (bs s), .string (bs p), .string (bs a)] w fun e w' => e = .returned (.bool true) ∧ Ext w w' := by
  have hl2 : s.length + p.length + a.length ≤ 2000 := by simp only [bs_size] at hl; omega
  have hal : all.length ≤ 2000 := by rw [← hall]; simp; omega
  have HB := Lib.hid fun W => ct_before s p [] (by omega) hA W
  have HF := Lib.hid fun W => ct_after s p [] (by omega) hB W
  have HC := Lib.hid fun W => ct_concat a p s all hall hal W
  have HCO := Lib.hid fun ab cp W G' => c_contains s p (by omega) ab cp W G'
  have HCA := Lib.hid fun ab cp W G' => c_contains all p (by omega) ab cp W G'
  have HST := Lib.hid fun ab cp W => c_starts all a ab cp W
  have e1 : Lib.contains all p = true := by rw [← hall]; exact contains_mid a p s
  have e2 : Lib.hasPrefix all a = true := by rw [← hall]; exact starts_all a p s
  rw [hc] at HCO
  rw [e1] at HCA
  rw [e2] at HST
  have g1 : ¬ 9223372036854775807 < (bs a).size + (bs p).size := by simp only [bs_size]; omega
  have g2 : ¬ 9223372036854775807 < (bs a ++ bs p).size + (bs s).size := by rw [bs_append]; simp only [bs_size, List.length_append]; omega
  have g3 : bs a ++ bs p ++ bs s = bs all := by rw [bs_append, bs_append, hall]
  have g0 : bs [] = ⟨#[]⟩ := rfl
  have g4 : (⟨#[]⟩ ++ ⟨#[]⟩ : ByteArray) = ⟨#[]⟩ := rfl
  rw [g0] at HB HF
  have U := Lib.hid U
  have G := Lib.hid G
  clear hA hB hall hal e1 e2 hc hl2
  go_enter Tryz.func3, Tryz.ntmps3
  go_wp2_with fail
  refine (awake_any w G.out U.out).mono ?_
  rintro e w1 ⟨rfl, hB1⟩
  have hz1 := hB1.size
  go_wp2_with fail
  refine (told_any_texts ⟨#[115, 117, 98, 115, 116, 114, 105, 110, 103, 45, 98, 101, 102, 111, 114, 101]⟩ [s, p] _ _ _ (by simp) (by simp) (strRow_at [s, p] (by simp) 2 _ rfl (by first | rfl | simp) rfl) (HB.out _ (G.out.ext (by repeat (first | exact Ext.refl _ | refine Ext.alloc ?_ _ | refine Ext.set ?_ (by dsimp only; omega) _ | refine (Ext.trans ?_ (by assumption))))))).mono ?_
  rintro e w2 ⟨rfl, hB2⟩
  have hz2 := hB2.size
  simp at hz2
  have l0_2 : w1.heap.size < w2.heap.size := by omega
  go_wp2_with fail
  refine (told_any_texts ⟨#[115, 117, 98, 115, 116, 114, 105, 110, 103, 45, 97, 102, 116, 101, 114]⟩ [s, p] _ _ _ (by simp) (by simp) (strRow_at [s, p] (by simp) 2 _ rfl (by first | rfl | simp) rfl) (HF.out _ (G.out.ext (by repeat (first | exact Ext.refl _ | refine Ext.alloc ?_ _ | refine Ext.set ?_ (by dsimp only; omega) _ | refine (Ext.trans ?_ (by assumption))))))).mono ?_
  rintro e w3 ⟨rfl, hB3⟩
  have hz3 := hB3.size
  simp at hz3
  have l0_3 : w1.heap.size < w3.heap.size := by omega
  have l1_3 : w2.heap.size < w3.heap.size := by omega
  clear l0_2
  go_wp2_with fail
  refine (ltext_any (bs s) _).mono ?_
  rintro e w4 ⟨rfl, hB4⟩
  have hz4 := hB4.size
  have l0_4 : w1.heap.size < w4.heap.size := by omega
  have l1_4 : w2.heap.size < w4.heap.size := by omega
  clear l0_3 l1_3
  go_wp2_with fail
  refine (ltext_any (bs p) _).mono ?_
  rintro e w5 ⟨rfl, hB5⟩
  have hz5 := hB5.size
  have l0_5 : w1.heap.size < w5.heap.size := by omega
  have l1_5 : w2.heap.size < w5.heap.size := by omega
  clear l0_4 l1_4
  go_wp2_with fail
  refine (HCO.out w5.heap.size 2 _ (G.out.ext (by repeat (first | exact Ext.refl _ | refine Ext.alloc ?_ _ | refine Ext.set ?_ (by dsimp only; omega) _ | refine (Ext.trans ?_ (by assumption))))) (arg_lit _ _ 0 _ _ _ _ _ rfl rfl rfl rfl rfl rfl) (arg_lit _ _ 1 _ _ _ _ _ rfl rfl rfl rfl rfl rfl)).mono ?_
  rintro e w6 ⟨rfl, hB6⟩
  have hz6 := hB6.size
  simp at hz6
  have l0_6 : w1.heap.size < w6.heap.size := by omega
  have l1_6 : w2.heap.size < w6.heap.size := by omega
  have l2_6 : w5.heap.size < w6.heap.size := by omega
  clear l0_5 l1_5
  go_wp2_with fail
  refine (told_any_texts ⟨#[99, 111, 110, 99, 97, 116]⟩ [a, p, s] _ _ _ (by simp) (by simp) (strRow_at [a, p, s] (by simp) 3 _ rfl (by first | rfl | simp) rfl) (HC.out _)).mono ?_
  rintro e w7 ⟨rfl, hB7⟩
  have hz7 := hB7.size
  simp at hz7
  have l0_7 : w1.heap.size < w7.heap.size := by omega
  have l1_7 : w2.heap.size < w7.heap.size := by omega
  have l2_7 : w5.heap.size < w7.heap.size := by omega
  have l3_7 : w6.heap.size < w7.heap.size := by omega
  have l4_7 : w6.heap.size + 1 < w7.heap.size := by omega
  have c3_0_7 : w7.cell? ⟨w6.heap.size, 0, none⟩ = some (.int .i64 2) := hB7.keep (by first | (simp; done) | (simp; omega)) (by simp [go_sem, l0_6, l1_6, l2_6])
  have c3_1_7 : w7.cell? ⟨w6.heap.size, 1, none⟩ = some (.slice none 0 0) := hB7.keep (by first | (simp; done) | (simp; omega)) (by simp [go_sem, l0_6, l1_6, l2_6])
  have c3_2_7 : w7.cell? ⟨w6.heap.size, 2, none⟩ = some (.bool false) := hB7.keep (by first | (simp; done) | (simp; omega)) (by simp [go_sem, l0_6, l1_6, l2_6])
  have c3_3_7 : w7.cell? ⟨w6.heap.size, 3, none⟩ = some (.bool false) := hB7.keep (by first | (simp; done) | (simp; omega)) (by simp [go_sem, l0_6, l1_6, l2_6])
  have c3_4_7 : w7.cell? ⟨w6.heap.size, 4, none⟩ = some (.int .i64 0) := hB7.keep (by first | (simp; done) | (simp; omega)) (by simp [go_sem, l0_6, l1_6, l2_6])
  have c3_5_7 : w7.cell? ⟨w6.heap.size, 5, none⟩ = some (.string ⟨#[]⟩) := hB7.keep (by first | (simp; done) | (simp; omega)) (by simp [go_sem, l0_6, l1_6, l2_6])
  clear l0_6 l1_6 l2_6
  go_wp2_with fail
  refine (ltext_any (bs all) _).mono ?_
  rintro e w8 ⟨rfl, hB8⟩
  have hz8 := hB8.size
  have l0_8 : w1.heap.size < w8.heap.size := by omega
  have l1_8 : w2.heap.size < w8.heap.size := by omega
  have l2_8 : w5.heap.size < w8.heap.size := by omega
  have l3_8 : w6.heap.size < w8.heap.size := by omega
  have l4_8 : w6.heap.size + 1 < w8.heap.size := by omega
  have c3_0_8 : w8.cell? ⟨w6.heap.size, 0, none⟩ = some (.int .i64 2) := hB8.keep (by omega) c3_0_7
  have c3_1_8 : w8.cell? ⟨w6.heap.size, 1, none⟩ = some (.slice none 0 0) := hB8.keep (by omega) c3_1_7
  have c3_2_8 : w8.cell? ⟨w6.heap.size, 2, none⟩ = some (.bool false) := hB8.keep (by omega) c3_2_7
  have c3_3_8 : w8.cell? ⟨w6.heap.size, 3, none⟩ = some (.bool false) := hB8.keep (by omega) c3_3_7
  have c3_4_8 : w8.cell? ⟨w6.heap.size, 4, none⟩ = some (.int .i64 0) := hB8.keep (by omega) c3_4_7
  have c3_5_8 : w8.cell? ⟨w6.heap.size, 5, none⟩ = some (.string ⟨#[]⟩) := hB8.keep (by omega) c3_5_7
  clear c3_0_7 c3_1_7 c3_2_7 c3_3_7 c3_4_7 c3_5_7 l0_7 l1_7 l2_7 l3_7 l4_7
  go_wp2_with fail
  refine (ltext_any (bs p) _).mono ?_
  rintro e w9 ⟨rfl, hB9⟩
  have hz9 := hB9.size
  have l0_9 : w1.heap.size < w9.heap.size := by omega
  have l1_9 : w2.heap.size < w9.heap.size := by omega
  have l2_9 : w5.heap.size < w9.heap.size := by omega
  have l3_9 : w6.heap.size < w9.heap.size := by omega
  have l4_9 : w6.heap.size + 1 < w9.heap.size := by omega
  have c3_0_9 : w9.cell? ⟨w6.heap.size, 0, none⟩ = some (.int .i64 2) := hB9.keep (by omega) c3_0_8
  have c3_1_9 : w9.cell? ⟨w6.heap.size, 1, none⟩ = some (.slice none 0 0) := hB9.keep (by omega) c3_1_8
  have c3_2_9 : w9.cell? ⟨w6.heap.size, 2, none⟩ = some (.bool false) := hB9.keep (by omega) c3_2_8
  have c3_3_9 : w9.cell? ⟨w6.heap.size, 3, none⟩ = some (.bool false) := hB9.keep (by omega) c3_3_8
  have c3_4_9 : w9.cell? ⟨w6.heap.size, 4, none⟩ = some (.int .i64 0) := hB9.keep (by omega) c3_4_8
  have c3_5_9 : w9.cell? ⟨w6.heap.size, 5, none⟩ = some (.string ⟨#[]⟩) := hB9.keep (by omega) c3_5_8
  clear c3_0_8 c3_1_8 c3_2_8 c3_3_8 c3_4_8 c3_5_8 l0_8 l1_8 l2_8 l3_8 l4_8
  go_wp2_with fail
  refine (HCA.out w9.heap.size 2 _ (G.out.ext (by repeat (first | exact Ext.refl _ | refine Ext.alloc ?_ _ | refine Ext.set ?_ (by dsimp only; omega) _ | refine (Ext.trans ?_ (by assumption))))) (arg_lit _ _ 0 _ _ _ _ _ rfl rfl rfl rfl rfl rfl) (arg_lit _ _ 1 _ _ _ _ _ rfl rfl rfl rfl rfl rfl)).mono ?_
  rintro e w10 ⟨rfl, hB10⟩
  have hz10 := hB10.size
  simp at hz10
  have l0_10 : w1.heap.size < w10.heap.size := by omega
  have l1_10 : w2.heap.size < w10.heap.size := by omega
  have l2_10 : w5.heap.size < w10.heap.size := by omega
  have l3_10 : w6.heap.size < w10.heap.size := by omega
  have l4_10 : w6.heap.size + 1 < w10.heap.size := by omega
  have l5_10 : w9.heap.size < w10.heap.size := by omega
  have c3_0_10 : w10.cell? ⟨w6.heap.size, 0, none⟩ = some (.int .i64 2) := hB10.keep (by first | (simp; done) | (simp; omega)) (by simp [go_sem, l0_9, l1_9, l2_9, l3_9, l4_9, c3_0_9])
  have c3_1_10 : w10.cell? ⟨w6.heap.size, 1, none⟩ = some (.slice none 0 0) := hB10.keep (by first | (simp; done) | (simp; omega)) (by simp [go_sem, l0_9, l1_9, l2_9, l3_9, l4_9, c3_1_9])
  have c3_2_10 : w10.cell? ⟨w6.heap.size, 2, none⟩ = some (.bool false) := hB10.keep (by first | (simp; done) | (simp; omega)) (by simp [go_sem, l0_9, l1_9, l2_9, l3_9, l4_9, c3_2_9])
  have c3_3_10 : w10.cell? ⟨w6.heap.size, 3, none⟩ = some (.bool false) := hB10.keep (by first | (simp; done) | (simp; omega)) (by simp [go_sem, l0_9, l1_9, l2_9, l3_9, l4_9, c3_3_9])
  have c3_4_10 : w10.cell? ⟨w6.heap.size, 4, none⟩ = some (.int .i64 0) := hB10.keep (by first | (simp; done) | (simp; omega)) (by simp [go_sem, l0_9, l1_9, l2_9, l3_9, l4_9, c3_4_9])
  have c3_5_10 : w10.cell? ⟨w6.heap.size, 5, none⟩ = some (.string ⟨#[]⟩) := hB10.keep (by first | (simp; done) | (simp; omega)) (by simp [go_sem, l0_9, l1_9, l2_9, l3_9, l4_9, c3_5_9])
  clear c3_0_9 c3_1_9 c3_2_9 c3_3_9 c3_4_9 c3_5_9 l0_9 l1_9 l2_9 l3_9 l4_9
  go_wp2_with fail
  refine (ltext_any (bs all) _).mono ?_
  rintro e w11 ⟨rfl, hB11⟩
  have hz11 := hB11.size
  simp at hz11
  have l0_11 : w1.heap.size < w11.heap.size := by omega
  have l1_11 : w2.heap.size < w11.heap.size := by omega
  have l2_11 : w5.heap.size < w11.heap.size := by omega
  have l3_11 : w6.heap.size < w11.heap.size := by omega
  have l4_11 : w6.heap.size + 1 < w11.heap.size := by omega
  have l5_11 : w9.heap.size < w11.heap.size := by omega
  have l6_11 : w10.heap.size < w11.heap.size := by omega
  have c3_0_11 : w11.cell? ⟨w6.heap.size, 0, none⟩ = some (.int .i64 2) := hB11.keep (by first | (simp; done) | (simp; omega)) (by simp [go_sem, l0_10, l1_10, l2_10, l3_10, l4_10, l5_10, c3_0_10])
  have c3_1_11 : w11.cell? ⟨w6.heap.size, 1, none⟩ = some (.slice none 0 0) := hB11.keep (by first | (simp; done) | (simp; omega)) (by simp [go_sem, l0_10, l1_10, l2_10, l3_10, l4_10, l5_10, c3_1_10])
  have c3_2_11 : w11.cell? ⟨w6.heap.size, 2, none⟩ = some (.bool false) := hB11.keep (by first | (simp; done) | (simp; omega)) (by simp [go_sem, l0_10, l1_10, l2_10, l3_10, l4_10, l5_10, c3_2_10])
  have c3_3_11 : w11.cell? ⟨w6.heap.size, 3, none⟩ = some (.bool false) := hB11.keep (by first | (simp; done) | (simp; omega)) (by simp [go_sem, l0_10, l1_10, l2_10, l3_10, l4_10, l5_10, c3_3_10])
  have c3_4_11 : w11.cell? ⟨w6.heap.size, 4, none⟩ = some (.int .i64 0) := hB11.keep (by first | (simp; done) | (simp; omega)) (by simp [go_sem, l0_10, l1_10, l2_10, l3_10, l4_10, l5_10, c3_4_10])
  have c3_5_11 : w11.cell? ⟨w6.heap.size, 5, none⟩ = some (.string ⟨#[]⟩) := hB11.keep (by first | (simp; done) | (simp; omega)) (by simp [go_sem, l0_10, l1_10, l2_10, l3_10, l4_10, l5_10, c3_5_10])
  have c6_0_11 : w11.cell? ⟨w10.heap.size, 0, none⟩ = some (.int .i64 2) := hB11.keep (by first | (simp; done) | (simp; omega)) (by simp [go_sem, l0_10, l1_10, l2_10, l3_10, l4_10, l5_10])
  have c6_1_11 : w11.cell? ⟨w10.heap.size, 1, none⟩ = some (.slice none 0 0) := hB11.keep (by first | (simp; done) | (simp; omega)) (by simp [go_sem, l0_10, l1_10, l2_10, l3_10, l4_10, l5_10])
  have c6_2_11 : w11.cell? ⟨w10.heap.size, 2, none⟩ = some (.bool true) := hB11.keep (by first | (simp; done) | (simp; omega)) (by simp [go_sem, l0_10, l1_10, l2_10, l3_10, l4_10, l5_10])
  have c6_3_11 : w11.cell? ⟨w10.heap.size, 3, none⟩ = some (.bool false) := hB11.keep (by first | (simp; done) | (simp; omega)) (by simp [go_sem, l0_10, l1_10, l2_10, l3_10, l4_10, l5_10])
  have c6_4_11 : w11.cell? ⟨w10.heap.size, 4, none⟩ = some (.int .i64 0) := hB11.keep (by first | (simp; done) | (simp; omega)) (by simp [go_sem, l0_10, l1_10, l2_10, l3_10, l4_10, l5_10])
  have c6_5_11 : w11.cell? ⟨w10.heap.size, 5, none⟩ = some (.string ⟨#[]⟩) := hB11.keep (by first | (simp; done) | (simp; omega)) (by simp [go_sem, l0_10, l1_10, l2_10, l3_10, l4_10, l5_10])
  clear c3_0_10 c3_1_10 c3_2_10 c3_3_10 c3_4_10 c3_5_10 l0_10 l1_10 l2_10 l3_10 l4_10 l5_10
  go_wp2_with fail
  refine (ltext_any (bs a) _).mono ?_
  rintro e w12 ⟨rfl, hB12⟩
  have hz12 := hB12.size
  have l0_12 : w1.heap.size < w12.heap.size := by omega
  have l1_12 : w2.heap.size < w12.heap.size := by omega
  have l2_12 : w5.heap.size < w12.heap.size := by omega
  have l3_12 : w6.heap.size < w12.heap.size := by omega
  have l4_12 : w6.heap.size + 1 < w12.heap.size := by omega
  have l5_12 : w9.heap.size < w12.heap.size := by omega
  have l6_12 : w10.heap.size < w12.heap.size := by omega
  have c3_0_12 : w12.cell? ⟨w6.heap.size, 0, none⟩ = some (.int .i64 2) := hB12.keep (by omega) c3_0_11
  have c3_1_12 : w12.cell? ⟨w6.heap.size, 1, none⟩ = some (.slice none 0 0) := hB12.keep (by omega) c3_1_11
  have c3_2_12 : w12.cell? ⟨w6.heap.size, 2, none⟩ = some (.bool false) := hB12.keep (by omega) c3_2_11
  have c3_3_12 : w12.cell? ⟨w6.heap.size, 3, none⟩ = some (.bool false) := hB12.keep (by omega) c3_3_11
  have c3_4_12 : w12.cell? ⟨w6.heap.size, 4, none⟩ = some (.int .i64 0) := hB12.keep (by omega) c3_4_11
  have c3_5_12 : w12.cell? ⟨w6.heap.size, 5, none⟩ = some (.string ⟨#[]⟩) := hB12.keep (by omega) c3_5_11
  have c6_0_12 : w12.cell? ⟨w10.heap.size, 0, none⟩ = some (.int .i64 2) := hB12.keep (by omega) c6_0_11
  have c6_1_12 : w12.cell? ⟨w10.heap.size, 1, none⟩ = some (.slice none 0 0) := hB12.keep (by omega) c6_1_11
  have c6_2_12 : w12.cell? ⟨w10.heap.size, 2, none⟩ = some (.bool true) := hB12.keep (by omega) c6_2_11
  have c6_3_12 : w12.cell? ⟨w10.heap.size, 3, none⟩ = some (.bool false) := hB12.keep (by omega) c6_3_11
  have c6_4_12 : w12.cell? ⟨w10.heap.size, 4, none⟩ = some (.int .i64 0) := hB12.keep (by omega) c6_4_11
  have c6_5_12 : w12.cell? ⟨w10.heap.size, 5, none⟩ = some (.string ⟨#[]⟩) := hB12.keep (by omega) c6_5_11
  clear c3_0_11 c3_1_11 c3_2_11 c3_3_11 c3_4_11 c3_5_11 c6_0_11 c6_1_11 c6_2_11 c6_3_11 c6_4_11 c6_5_11 l0_11 l1_11 l2_11 l3_11 l4_11 l5_11 l6_11
  go_wp2_with fail
  refine (HST.out w12.heap.size 2 _ (arg_lit _ _ 0 _ _ _ _ _ rfl rfl rfl rfl rfl rfl) (arg_lit _ _ 1 _ _ _ _ _ rfl rfl rfl rfl rfl rfl)).mono ?_
  rintro e w13 ⟨rfl, hB13⟩
  have hz13 := hB13.size
  simp at hz13
  have l0_13 : w1.heap.size < w13.heap.size := by omega
  have l1_13 : w2.heap.size < w13.heap.size := by omega
  have l2_13 : w5.heap.size < w13.heap.size := by omega
  have l3_13 : w6.heap.size < w13.heap.size := by omega
  have l4_13 : w6.heap.size + 1 < w13.heap.size := by omega
  have l5_13 : w9.heap.size < w13.heap.size := by omega
  have l6_13 : w10.heap.size < w13.heap.size := by omega
  have l7_13 : w12.heap.size < w13.heap.size := by omega
  have c3_0_13 : w13.cell? ⟨w6.heap.size, 0, none⟩ = some (.int .i64 2) := hB13.keep (by first | (simp; done) | (simp; omega)) (by simp [go_sem, l0_12, l1_12, l2_12, l3_12, l4_12, l5_12, l6_12, c3_0_12])
  have c3_1_13 : w13.cell? ⟨w6.heap.size, 1, none⟩ = some (.slice none 0 0) := hB13.keep (by first | (simp; done) | (simp; omega)) (by simp [go_sem, l0_12, l1_12, l2_12, l3_12, l4_12, l5_12, l6_12, c3_1_12])
  have c3_2_13 : w13.cell? ⟨w6.heap.size, 2, none⟩ = some (.bool false) := hB13.keep (by first | (simp; done) | (simp; omega)) (by simp [go_sem, l0_12, l1_12, l2_12, l3_12, l4_12, l5_12, l6_12, c3_2_12])
  have c3_3_13 : w13.cell? ⟨w6.heap.size, 3, none⟩ = some (.bool false) := hB13.keep (by first | (simp; done) | (simp; omega)) (by simp [go_sem, l0_12, l1_12, l2_12, l3_12, l4_12, l5_12, l6_12, c3_3_12])
  have c3_4_13 : w13.cell? ⟨w6.heap.size, 4, none⟩ = some (.int .i64 0) := hB13.keep (by first | (simp; done) | (simp; omega)) (by simp [go_sem, l0_12, l1_12, l2_12, l3_12, l4_12, l5_12, l6_12, c3_4_12])
  have c3_5_13 : w13.cell? ⟨w6.heap.size, 5, none⟩ = some (.string ⟨#[]⟩) := hB13.keep (by first | (simp; done) | (simp; omega)) (by simp [go_sem, l0_12, l1_12, l2_12, l3_12, l4_12, l5_12, l6_12, c3_5_12])
  have c6_0_13 : w13.cell? ⟨w10.heap.size, 0, none⟩ = some (.int .i64 2) := hB13.keep (by first | (simp; done) | (simp; omega)) (by simp [go_sem, l0_12, l1_12, l2_12, l3_12, l4_12, l5_12, l6_12, c6_0_12])
  have c6_1_13 : w13.cell? ⟨w10.heap.size, 1, none⟩ = some (.slice none 0 0) := hB13.keep (by first | (simp; done) | (simp; omega)) (by simp [go_sem, l0_12, l1_12, l2_12, l3_12, l4_12, l5_12, l6_12, c6_1_12])
  have c6_2_13 : w13.cell? ⟨w10.heap.size, 2, none⟩ = some (.bool true) := hB13.keep (by first | (simp; done) | (simp; omega)) (by simp [go_sem, l0_12, l1_12, l2_12, l3_12, l4_12, l5_12, l6_12, c6_2_12])
  have c6_3_13 : w13.cell? ⟨w10.heap.size, 3, none⟩ = some (.bool false) := hB13.keep (by first | (simp; done) | (simp; omega)) (by simp [go_sem, l0_12, l1_12, l2_12, l3_12, l4_12, l5_12, l6_12, c6_3_12])
  have c6_4_13 : w13.cell? ⟨w10.heap.size, 4, none⟩ = some (.int .i64 0) := hB13.keep (by first | (simp; done) | (simp; omega)) (by simp [go_sem, l0_12, l1_12, l2_12, l3_12, l4_12, l5_12, l6_12, c6_4_12])
  have c6_5_13 : w13.cell? ⟨w10.heap.size, 5, none⟩ = some (.string ⟨#[]⟩) := hB13.keep (by first | (simp; done) | (simp; omega)) (by simp [go_sem, l0_12, l1_12, l2_12, l3_12, l4_12, l5_12, l6_12, c6_5_12])
  clear c3_0_12 c3_1_12 c3_2_12 c3_3_12 c3_4_12 c3_5_12 c6_0_12 c6_1_12 c6_2_12 c6_3_12 c6_4_12 c6_5_12 l0_12 l1_12 l2_12 l3_12 l4_12 l5_12 l6_12
  go_wp2_with fail
  go_ret
  refine ⟨rfl, ?_⟩
  repeat (first | exact Ext.refl _ | refine Ext.alloc ?_ _ | refine Ext.set ?_ (by dsimp only; omega) _ | refine (Ext.trans ?_ (by assumption)))
/-- The law, of whatever texts. -/
theorem texts_walk (s p a : ByteArray) (w : World) (G : Glob w) (U : GlobU w) (h1 : s.size ≤ 140737488351232) (h2 : p.size ≤ 140737488351232) (h3 : a.size ≤ 140737488351232) : Calls Tryz.prog 3 #[.string s, .string p, .string a] w fun e w' => e = .returned (.bool true) ∧ Ext w w' := by
  rw [str_ext s, str_ext p, str_ext a]
  by_cases hl : (2000 : Int) < ((bs s.data.toList).size : Int) + ((bs p.data.toList).size : Int) + ((bs a.data.toList).size : Int)
  · exact texts_long _ _ _ w G U hl (by rw [← str_ext]; exact h1) (by rw [← str_ext]; exact h2) (by rw [← str_ext]; exact h3)
  · by_cases hc : Lib.contains s.data.toList p.data.toList = true
    · exact texts_yes _ _ _ _ _ _ w G U hl hc rfl rfl (cut_yes _ _ hc) rfl
    · have hc2 : Lib.contains s.data.toList p.data.toList = false := by simpa using hc
      have e := cut_no _ _ hc2
      exact texts_no _ _ _ _ w G U hl hc2 (by rw [e]) (by rw [e]) rfl
end Go.Proofs.YtcdehcclkhmbiaaGreatDoor
