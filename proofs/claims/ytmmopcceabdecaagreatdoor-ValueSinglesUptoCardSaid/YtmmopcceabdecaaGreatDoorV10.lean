/-
  recensionlaw23.awake. Helper lemmas; no statement of the seat is proved here.
-/
import Derived.Test.YtmmopcceabdecaaGreatDoorV9
namespace Go.Proofs.YtmmopcceabdecaaGreatDoor
open Go.RowKit Go.Shelf
attribute [local go_sem] Oper.semAt_some
set_option maxRecDepth 100000
set_option linter.unusedVariables false
set_option linter.unusedSimpArgs false

theorem text_any (s : ByteArray) (w : World) : Calls Tryz.prog 10 #[.string s] w fun e w' => e = .returned (.agg #[.int .i64 4, .slice none 0 0, .bool false, .bool false, .int .i64 0, .string s]) ∧ Ext w w' := by
  go_enter Tryz.func10, Tryz.ntmps10
  go_wp2_with fail
  refine bodyPost_ret (v := .agg #[.int .i64 4, .slice none 0 0, .bool false, .bool false, .int .i64 0, .string s]) (by simp [results, Tryz.f10, go_sem]) rfl ⟨rfl, ?_⟩
  exact (Ext.refl w).alloc _
theorem parse_150 : parseS [49, 46, 53, 48] = ((false, 1500000), 0) := by kernel_rfl
theorem cmp_nan : cmpL [33, 61] ⟨3, .slice none 0 0, false, true, 0, []⟩ [⟨3, .slice none 0 0, false, true, 0, []⟩] = (true, 0) := by kernel_rfl
set_option maxHeartbeats 4000000 in
theorem compare_q (x : ByteArray) (w : World) :
    Calls Tryz.prog 7 #[.slice none 0 0, .string ⟨#[63]⟩, .agg #[.int .i64 4, .slice none 0 0, .bool false, .bool false, .int .i64 0, .string x], .agg #[.int .i64 4, .slice none 0 0, .bool false, .bool false, .int .i64 0, .string x]] w fun e w' => e = .returned (.tuple #[.bool false, .int .i64 80]) ∧ Ext w w' := by
  obtain ⟨wz, hwz⟩ : ∃ W', (((w.alloc (.cells #[.int .i64 4, .slice none 0 0, .bool false, .bool false, .int .i64 0, .string x] 30)).alloc (.cells #[.int .i64 4, .slice none 0 0, .bool false, .bool false, .int .i64 0, .string x] 30)).alloc (.cells #[.bool false] 4)).alloc (.cells #[.int .i64 0] 37) = W' := ⟨_, rfl⟩
  have hE : Ext w wz := by rw [← hwz]; exact ((((Ext.refl w).alloc _).alloc _).alloc _).alloc _
  have q2 : wz.heap[w.heap.size + 1 + 1]? = some (.cells [.bool false].toArray 4 (0, 0)) := by
    have h := blk_ext (blk_new ((w.alloc (.cells #[.int .i64 4, .slice none 0 0, .bool false, .bool false, .int .i64 0, .string x] 30)).alloc (.cells #[.int .i64 4, .slice none 0 0, .bool false, .bool false, .int .i64 0, .string x] 30)) (.cells #[.bool false] 4)) ((Ext.refl _).alloc (.cells #[.int .i64 0] 37))
    rw [World.size_alloc, World.size_alloc, hwz] at h; exact h
  have q3 : wz.heap[w.heap.size + 1 + 1 + 1]? = some (.cells [.int .i64 0].toArray 37 (0, 0)) := by
    have h := blk_new (((w.alloc (.cells #[.int .i64 4, .slice none 0 0, .bool false, .bool false, .int .i64 0, .string x] 30)).alloc (.cells #[.int .i64 4, .slice none 0 0, .bool false, .bool false, .int .i64 0, .string x] 30)).alloc (.cells #[.bool false] 4)) (.cells #[.int .i64 0] 37)
    rw [World.size_alloc, World.size_alloc, World.size_alloc, hwz] at h; exact h
  obtain ⟨wy, hwy⟩ : ∃ W', wz.alloc (.cells #[.string ⟨#[61]⟩, .string ⟨#[33, 61]⟩, .string ⟨#[60]⟩, .string ⟨#[60, 61]⟩, .string ⟨#[62]⟩, .string ⟨#[62, 61]⟩] 9) = W' := ⟨_, rfl⟩
  have hE2 : Ext wz wy := by rw [← hwy]; exact (Ext.refl wz).alloc _
  have hCT := Tryz.slices_Contains_string wz.heap.size 0 6 6 OPB ⟨#[63]⟩ wy (by decide) (by decide) (opb_cells wy wz.heap.size (by rw [← hwy]; exact blk_new wz _))
  rw [show Lib.containsS (OPB.take 6) ⟨#[63]⟩ = false by decide] at hCT
  have HCT := Lib.hid hCT
  have g2 := blk_ext q2 hE2
  have g3 := blk_ext q3 hE2
  have e2 := blk_cells g2 0 rfl
  have e3 := blk_cells g3 0 rfl
  have f2 : wy.frozen? ⟨w.heap.size + 1 + 1, 0, none⟩ = false := blk_free g2
  have f3 : wy.frozen? ⟨w.heap.size + 1 + 1 + 1, 0, none⟩ = false := blk_free g3
  have HG := Lib.hid (And.intro g2 (And.intro g3 (hE.trans hE2)))
  clear q2 q3 g2 g3 hE hE2 hCT
  refine (callsIn_wide (n := 4)).1 ?_
  refine callsIn_of_wp_marks Tryz.func7 rfl trivial ?_ rfl
  simp only [Tryz.ntmps7, List.size_toArray, List.length_cons, List.length_nil, Nat.reduceAdd, Nat.reduceSub, Array.replicate_succ, Array.replicate_zero, List.push_toArray, List.append_toArray, List.nil_append, List.cons_append]
  gi_wp2_with fail
  refine ⟨trivial, (callsIn_wide.2 HCT.out).mono ?_⟩
  rintro e wy' ⟨rfl, rfl⟩
  gi_wp2_with fail
  refine ⟨trivial, ?_⟩
  gi_wp2_with fail
  refine ⟨trivial, ?_⟩
  gi_wp2_with fail
  have k8 := blk_cells (blk_oth (u := .int .i64 80) (g := w.heap.size + 1 + 1 + 1) (blk_put (u := .bool false) HG.out.1) (by omega)) 0 rfl
  have k9 := blk_cells (blk_put (u := .int .i64 80) (blk_oth (u := .bool false) (g := w.heap.size + 1 + 1) HG.out.2.1 (by omega))) 0 rfl
  refine ⟨.tuple #[.bool false, .int .i64 80], ?_, rfl, (HG.out.2.2.set (p := ⟨w.heap.size + 1 + 1, 0, none⟩) (by simp only []; omega) _).set (p := ⟨w.heap.size + 1 + 1 + 1, 0, none⟩) (by simp only []; omega) _⟩
  simp [results, Tryz.f7, go_sem, k8, k9]
set_option maxHeartbeats 8000000 in
theorem awake_any (w : World) (G : Glob w) : Calls Tryz.prog 4 #[] w fun e w' => e = .returned (.bool true) ∧ Ext w w' := by
  have HT := Lib.hid fun W s => text_any s W
  have HN := Lib.hid fun W (hE : Ext w W) => num_any (txtV [49, 46, 53, 48]) (.slice none 0 0) (.inr rfl) ⟨_, _, _, rfl⟩ W (G.ext hE) (show 4 ≤ _ by decide)
  rw [show numV (txtV [49, 46, 53, 48]) = ((false, 1500000), 0) from parse_150] at HN
  have HC := Lib.hid fun W (hE : Ext w W) => compare_one [33, 61] (by decide) ⟨3, .slice none 0 0, false, true, 0, []⟩ ⟨3, .slice none 0 0, false, true, 0, []⟩ ⟨.inl rfl, ⟨_, _, _, rfl⟩, show 0 ≤ _ by decide⟩ (.inl rfl) ⟨_, _, _, rfl⟩ (show 0 ≤ _ by decide) (.slice none 0 0) ⟨_, _, _, rfl⟩ W (G.ext hE)
  rw [cmp_nan] at HC
  have HQ := Lib.hid fun W => compare_q ⟨#[97]⟩ W
  unfold txtV vvL at HN
  unfold vvL at HC
  dsimp only at HN HC
  go_enter Tryz.func4, Tryz.ntmps4
  go_wp2_with fail
  refine (HT.out _ _).mono ?_
  rintro e w1 ⟨rfl, hX1⟩
  go_wp2_with fail
  refine (HN.out _ hX1).mono ?_
  rintro e w2 ⟨rfl, hX2⟩
  have HX2 := Lib.hid (hX1.trans hX2)
  clear hX1 hX2 HN
  go_wp2_with fail
  obtain ⟨w3, hw3⟩ : ∃ W', w2.alloc (.cells #[.bool false, .int .i64 1500000] 28) = W' := ⟨_, rfl⟩
  have hE3 : Ext w2 w3 := by rw [← hw3]; exact (Ext.refl w2).alloc _
  have h3 : w3.heap[w2.heap.size]? = some (.cells [.bool false, .int .i64 1500000].toArray 28 (0, 0)) := by rw [← hw3]; exact blk_new w2 _
  rw [hw3]
  refine (HC.out _ (HX2.out.trans hE3)).mono ?_
  rintro e w4 ⟨rfl, hX4⟩
  have H4 := Lib.hid (blk_ext h3 hX4)
  have HX4 := Lib.hid (HX2.out.trans (hE3.trans hX4))
  clear hX4 hE3 h3 hw3 HC HX2
  go_wp2_with fail
  refine (HT.out _ _).mono ?_
  rintro e w5 ⟨rfl, hX5⟩
  go_wp2_with fail
  refine (HT.out _ _).mono ?_
  rintro e w6 ⟨rfl, hX6⟩
  go_wp2_with fail
  refine (HQ.out _).mono ?_
  rintro e w7 ⟨rfl, hX7⟩
  have h7 := blk_ext H4.out (hX5.trans (hX6.trans hX7))
  have e1 := blk_cells h7 1 rfl
  have HX7 := Lib.hid (HX4.out.trans (hX5.trans (hX6.trans hX7)))
  clear hX5 hX6 hX7 HX4 h7 HT HQ
  go_wp2_with fail
  go_ret
  exact ⟨rfl, HX7.out⟩
end Go.Proofs.YtmmopcceabdecaaGreatDoor
